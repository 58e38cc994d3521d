import Derived.Test.YtadecgbblajifaaGreatDoorE35
set_option linter.unusedSimpArgs false
set_option linter.unusedVariables false
set_option maxRecDepth 100000
set_option maxHeartbeats 25600000
namespace Go.Proofs.YtadecgbblajifaaGreatDoor
open Go.RowKit Go.Instr
def Kt (l:List vX) (s:ByteArray):Option vX:=l.find? (λp=>p.name == s)
theorem _o (l:List aM) (s:ByteArray):Kt (l.map aM.d) s=(pM l s).map aM.d:=by
 unfold Kt pM
 induction l with
 |nil=>rfl
 |cons p l ih =>
  simp only[List.map_cons,List.find?_cons]
  have:(p.d.name == s)=(p.name == s):=rfl
  rw[this]
  cases(p.name == s)with
  |true=>rfl
  |false=>exact ih
def qg (f:fe) (procs:List vX) (name:ByteArray) (kids:List Tree):Bool:=match Kt procs name with
 |none=>false
 |some p=>(kids.zip p.params).all λx=>(aD f x.1.name x.2.kind).isSome
set_option maxRecDepth 100000 in
set_option maxHeartbeats 3200000 in
theorem Ni (sv pv:Value) (f:fe) (procs:List aM) (k n:Int) (s:ByteArray) (kv:Value) (l:List aa) (w:World) (hf:mE w sv f) (hp:su w pv procs) (hx:fJ w (.mk k n s kv l)) :
 Calls Tryz.prog 184 #[.agg #[sv,.int .i64 f.cells,.int .i64 f.stacks,pv],aa.val (.mk k n s kv l)] w (jG w (qg f (procs.map aM.d) s (aa.ts l))):=by
 obtain⟨fa,fc,rfl,hfc,hfl⟩:=hf.row.form
 obtain⟨ga,gc,rfl,hgc,hgl⟩:=hp.row.form
 obtain⟨a,cap,rfl,hcap,hlen⟩:=hx.form
 have HF:=Lib.hid hf
 have HP:=Lib.hid hp
 have HX:=Lib.hid hx
 clear hf hp hx
 simp only[aa.val]
 have hg1:Grow w ((w.alloc (.cells #[.slice fa f.slots.length fc,.int .i64 f.cells,.int .i64 f.stacks,.slice ga procs.length gc] 141)).alloc (.cells #[.int .u8 k,.int .i64 n,.string s,.slice a l.length cap] 26)):=((Mv.refl _ _).alloc _).alloc _
 have hU:=dG (heap_alloc_new w (.cells #[.slice fa f.slots.length fc,.int .i64 f.cells,.int .i64 f.stacks,.slice ga procs.length gc] 141)) (.cells #[.int .u8 k,.int .i64 n,.string s,.slice a l.length cap] 26)
 have hN:=heap_alloc_new (w.alloc (.cells #[.slice fa f.slots.length fc,.int .i64 f.cells,.int .i64 f.stacks,.slice ga procs.length gc] 141)) (.cells #[.int .u8 k,.int .i64 n,.string s,.slice a l.length cap] 26)
 rw[World.size_alloc]at hN
 have aP:=Lib.hid hg1
 have HU:=Lib.hid hU
 have HN:=Lib.hid hN
 have Wn:=Lib.hid (Zc (.slice ga procs.length gc) procs s ((w.alloc (.cells #[.slice fa f.slots.length fc,.int .i64 f.cells,.int .i64 f.stacks,.slice ga procs.length gc] 141)).alloc (.cells #[.int .u8 k,.int .i64 n,.string s,.slice a l.length cap] 26)) (HP.out.later hg1))
 clear hg1 hU hN
 go_enter Tryz.func184,Tryz.ntmps184
 go_wp2_with fail
 generalize (w.alloc (.cells #[.slice fa f.slots.length fc,.int .i64 f.cells,.int .i64 f.stacks,.slice ga procs.length gc] 141)).alloc (.cells #[.int .u8 k,.int .i64 n,.string s,.slice a l.length cap] 26)=w1 at *
 refine Wn.out.mono ?_
 rintro e w2 ⟨rfl,hg2⟩
 have HG2:=Lib.hid (Mv.trans aP.out hg2 (λ_ e=>e.elim))
 have ME:=aJ HU.out hg2
 have gz:=aJ HN.out hg2
 have MF:=Lib.hid (_o procs s)
 have hpo:=XZ (HP.out.later HG2.out) s
 generalize hfp:pM procs s=fp at *
 clear hg2 Wn hfp
 cases fp with
 |none =>
  have HR:=Lib.hid (show qg f (procs.map aM.d) s (aa.ts l)=false from by unfold qg;rw[MF.out];rfl)
  simp only[Option.getD_none,Option.isSome_none,A7,aM.val]
  clear hpo ME gz
  go_wp2_with fail
  go_ret
  exact⟨ax HR.out.symm,HG2.out.alloc _⟩
 |some p =>
 have uK:=Lib.hid (show qg f (procs.map aM.d) s (aa.ts l)=((aa.ts l).zip p.params).all (λx=>(aD f x.1.name x.2.kind).isSome)from by unfold qg;rw[MF.out];rfl)
 simp only[Option.getD_some,Option.isSome_some]at hpo ⊢
 obtain⟨xn,xp,xpv,xb⟩:=p
 obtain⟨xa,xc,rfl,Wi,hxl⟩:=hpo.form
 have MG:=Lib.hid hpo.params
 have xD:=hpo.body
 obtain⟨bk,bn,bs,bkv,bl⟩:=xb
 simp only at xD MG uK
 obtain⟨ba,bc,rfl,-,-⟩:=xD.form
 simp only[aM.val]
 have cu:=Lib.hid (HG2.out.alloc (.cells #[.string xn,.slice xa xp.length xc,.int .u8 bk,.int .i64 bn,.string bs,.slice ba bl.length bc] 48))
 have HU3:=Lib.hid (dG ME (.cells #[.string xn,.slice xa xp.length xc,.int .u8 bk,.int .i64 bn,.string bs,.slice ba bl.length bc] 48))
 have HN3:=Lib.hid (dG gz (.cells #[.string xn,.slice xa xp.length xc,.int .u8 bk,.int .i64 bn,.string bs,.slice ba bl.length bc] 48))
 have HP3:=Lib.hid (heap_alloc_new w2 (.cells #[.string xn,.slice xa xp.length xc,.int .u8 bk,.int .i64 bn,.string bs,.slice ba bl.length bc] 48))
 have TR:=Lib.hid (MG.out.later ((Mv.refl _ _).alloc (.cells #[.string xn,.slice xa xp.length xc,.int .u8 bk,.int .i64 bn,.string bs,.slice ba bl.length bc] 48)))
 obtain⟨⟨n0,n1⟩,n2,n3⟩:=fE gz
 have hln:=lt_of_block gz
 clear hpo xD ME gz MF MG
 go_wp2_with fail
 clear n0 n1 n2 n3 hln
 obtain⟨m,hm,hm1,hm2,dR⟩:∃ m:Nat,min (l.length:Int) (xp.length:Int)=m/\m<=l.length/\m<=xp.length/\(m=l.length\/m=xp.length):=⟨min l.length xp.length,by omega,by omega,by omega,by omega⟩
 rw[hm]
 have jN:=Lib.hid dR
 clear hm dR
 generalize w2.alloc (.cells #[.string xn,.slice xa xp.length xc,.int .u8 bk,.int .i64 bn,.string bs,.slice ba bl.length bc] 48)=w3 at *
 go_loopw [25] (λt wr=>∃ j:Nat,t = .int .i64 j/\j<=m/\(∀ i (h1:i<l.length) (h2:i<xp.length),i<j->(aD f l[i].t.name xp[i].kind).isSome=true)/\Grow w3 wr) (λt _=>m - (intOf t).toNat)
 case atStart=>exact⟨0,rfl,Nat.zero_le _,λi _ _ h=>by omega,Mv.refl _ _⟩
 obtain⟨j,rfl,hj,hall,hgr⟩:=hrel
 have ek:=Lib.hid hall
 have aU:=Lib.hid hgr
 have aS:=Lib.hid (Mv.trans cu.out hgr (λ_ e=>e.elim))
 clear hall hgr
 by_cases hlt:j<m
 · have hjl:j<l.length:=by omega
   have hjp:j<xp.length:=by omega
   obtain⟨kb,ko,cap',e,_,hcc⟩:=HX.out.row.2.2.2.1.at hjl
   simp only[Value.slice.injEq,true_and]at e
   obtain⟨rfl,rfl⟩:=e
   obtain⟨pb,po,cap2,e,_,hcp⟩:=TR.out.at hjp
   simp only[Value.slice.injEq,true_and]at e
   obtain⟨rfl,rfl⟩:=e
   have HT:=Lib.hid (show(aD f l[j].t.name xp[j].kind).isSome=true->∀ i (h1:i<l.length) (h2:i<xp.length),i<j+1->(aD f l[i].t.name xp[i].kind).isSome=true from λh i h1 h2 hij=>by
    rcases Nat.lt_or_ge i j with h3|h3
    · exact ek.out i h1 h2 h3
    · obtain rfl:i=j:=by omega
      exact h)
   have dX:=Lib.hid (show(aD f l[j].t.name xp[j].kind).isSome=false->qg f (procs.map aM.d) s (aa.ts l)=false from λh=>by
    rw[uK.out]
    refine List.all_eq_false.2 ⟨(l[j].t,xp[j]),?_,by simp[h]⟩
    have hz:j<((aa.ts l).zip xp).length:=by rw[List.length_zip,aa.kN];omega
    have:((aa.ts l).zip xp)[j]=(l[j].t,xp[j]):=by rw[List.getElem_zip,aa.yI l j hjl]
    rw[← this];exact List.getElem_mem hz)
   have MH:=Lib.hid (λ(x:World) (hx:Grow wr.drew x)=>(HX.out.row.2.2.2.1.later (Mv.trans (Mv.drew aS.out) hx (λ_ e=>e.elim))).at' hjl)
   have MI:=Lib.hid (λ(x:World) (hx:Grow wr.drew x)=>(TR.out.later (Mv.trans (Mv.drew aU.out) hx (λ_ e=>e.elim))).at' hjp)
   have Wo:=Lib.hid (λ(x:World) (hx:Grow wr.drew x)=>aJ (show(wr.drew).heap[w.heap.size]? = _ from aJ HU3.out (Mv.drew aU.out)) hx)
   have kL:=Lib.hid (λ(x:World) (hx:Grow wr.drew x)=>aJ (show(wr.drew).heap[w.heap.size+1]? = _ from aJ HN3.out (Mv.drew aU.out)) hx)
   have Wp:=Lib.hid (λ(x:World) (hx:Grow wr.drew x)=>aJ (show(wr.drew).heap[w2.heap.size]? = _ from aJ HP3.out (Mv.drew aU.out)) hx)
   have oQ:=Lib.hid (λ(x:World) (hx:Grow wr.drew x)=>HF.out.later (Mv.trans (Mv.drew aS.out) hx (λ_ e=>e.elim)))
   have dN:=HX.out.row.2.2.2.2 l[j] (List.getElem_mem hjl)
   generalize l[j]=y at HT dX MH dN hcc
   generalize xp[j]=vd at HT dX MI hcp
   obtain⟨yk,yn,ys,uR,yl⟩:=y
   obtain⟨vn,vk,vl⟩:=vd
   simp only[aa.t,Tree.name]at HT dX
   generalize hbv:(aD f ys vk).isSome=bv at *
   have HBV:=Lib.hid hbv
   clear hcc hcp dN hbv
   go_wp2_with fail
   refine Dg (by kernel_rfl) 44 [some 28,some 29,some 30,some 31,some 32,some 33,some 34,some 35,some 36,some 37,some 38,some 39,some 40,some 41,some 42] [[],[],[1],[],[2,3],[4],[5],[],[7],[],[8,9],[10],[11],[0,6,12],[13]] [[],[],[1],[],[2,3],[4],[5],[],[7],[],[8,9],[10],[11],[0,6,12],[13]] [[0],[1],[2],[3],[4],[5],[6],[7],[8],[9],[10],[11],[12],[13],[14]] [] rfl (by kernel_rfl) (Mv (λ_=>False)) (Mv.refl (λ_=>False)) (λx y z h1 h2=>Mv.trans h1 h2 (λ_ e=>e.elim)) (YC [some (.agg #[.slice fa f.slots.length fc,.int .i64 f.cells,.int .i64 f.stacks,.slice ga procs.length gc]),some (.pointer (some ⟨w.heap.size+1,3,none⟩)),some (.slice (some ⟨kb,ko,none⟩) l.length cap),some (.int .i64 j),some (.pointer (some ⟨kb,ko+j * 4,none⟩)),some (.pointer (some ⟨kb,ko+j * 4+2,none⟩)),some (.string ys),some (.pointer (some ⟨w2.heap.size,1,none⟩)),some (.slice (some ⟨pb,po,none⟩) xp.length xc),some (.int .i64 j),some (.pointer (some ⟨pb,po+j * 3,none⟩)),some (.pointer (some ⟨pb,po+j * 3+1,none⟩)),some (.int .u8 vk),some (.bool bv),some (.bool (!bv))] 99 (λ_ _=>True)) ?steps ?done
   case steps =>
    refine⟨?s0,?s1,?s2,?s3,?s4,?s5,?s6,?s7,?s8,?s9,?s10,?s11,?s12,?s13,?s14,trivial⟩
    case s0 =>
     intro vs x hx hY
     obtain⟨⟨u0,u1⟩,u2,u3⟩:=fE (Wo.out x hx)
     clear hY
     unfold Gives
     simp only[ai,Act.put,List.getD_cons_zero,List.getD_cons_succ,List.setIfInBounds_toArray,List.set_cons_zero,List.set_cons_succ]
     go_simp
     exact⟨(Mv.refl (λ_=>False)) x,kr (by decide) rfl rfl,by intros;assumption⟩
    case s1 =>
     intro vs x hx hY
     clear hY
     unfold Gives
     simp only[ai,Act.put,List.getD_cons_zero,List.getD_cons_succ,List.setIfInBounds_toArray,List.set_cons_zero,List.set_cons_succ]
     go_simp
     exact⟨(Mv.refl (λ_=>False)) x,kr (by decide) rfl rfl,by intros;assumption⟩
    case s2 =>
     intro vs x hx hY
     have h1:vs 1 = .pointer (some ⟨w.heap.size+1,3,none⟩):=eT (hY 1 (by simp) (by simp)) (by decide) rfl
     obtain⟨⟨u0,u1⟩,u2,u3⟩:=fE (kL.out x hx)
     clear hY
     unfold Gives
     simp only[ai,Act.put,List.getD_cons_zero,List.getD_cons_succ,List.setIfInBounds_toArray,List.set_cons_zero,List.set_cons_succ,h1]
     go_simp
     exact⟨(Mv.refl (λ_=>False)) x,kr (by decide) rfl rfl,by intros;assumption⟩
    case s3 =>
     intro vs x hx hY
     clear hY
     unfold Gives
     simp only[ai,Act.put,List.getD_cons_zero,List.getD_cons_succ,List.setIfInBounds_toArray,List.set_cons_zero,List.set_cons_succ]
     go_simp
     exact⟨(Mv.refl (λ_=>False)) x,kr (by decide) rfl rfl,by intros;assumption⟩
    case s4 =>
     intro vs x hx hY
     have h2:vs 2 = .slice (some ⟨kb,ko,none⟩) l.length cap:=eT (hY 2 (by simp) (by simp)) (by decide) rfl
     have h3:vs 3 = .int .i64 j:=eT (hY 3 (by simp) (by simp)) (by decide) rfl
     clear hY
     unfold Gives
     simp only[ai,Act.put,List.getD_cons_zero,List.getD_cons_succ,List.setIfInBounds_toArray,List.set_cons_zero,List.set_cons_succ,h2,h3]
     go_simp
     exact⟨(Mv.refl (λ_=>False)) x,kr (by decide) rfl rfl,by intros;assumption⟩
    case s5 =>
     intro vs x hx hY
     have h4:vs 4 = .pointer (some ⟨kb,ko+j * 4,none⟩):=eT (hY 4 (by simp) (by simp)) (by decide) rfl
     clear hY
     unfold Gives
     simp only[ai,Act.put,List.getD_cons_zero,List.getD_cons_succ,List.setIfInBounds_toArray,List.set_cons_zero,List.set_cons_succ,h4]
     go_simp
     exact⟨(Mv.refl (λ_=>False)) x,kr (by decide) rfl rfl,by intros;assumption⟩
    case s6 =>
     intro vs x hx hY
     have h5:vs 5 = .pointer (some ⟨kb,ko+j * 4+2,none⟩):=eT (hY 5 (by simp) (by simp)) (by decide) rfl
     have u2:=MH.out x hx 2 _ rfl
     clear hY
     unfold Gives
     simp only[ai,Act.put,List.getD_cons_zero,List.getD_cons_succ,List.setIfInBounds_toArray,List.set_cons_zero,List.set_cons_succ,h5]
     go_simp
     exact⟨(Mv.refl (λ_=>False)) x,kr (by decide) rfl rfl,by intros;assumption⟩
    case s7 =>
     intro vs x hx hY
     clear hY
     unfold Gives
     simp only[ai,Act.put,List.getD_cons_zero,List.getD_cons_succ,List.setIfInBounds_toArray,List.set_cons_zero,List.set_cons_succ]
     go_simp
     exact⟨(Mv.refl (λ_=>False)) x,kr (by decide) rfl rfl,by intros;assumption⟩
    case s8 =>
     intro vs x hx hY
     have h7:vs 7 = .pointer (some ⟨w2.heap.size,1,none⟩):=eT (hY 7 (by simp) (by simp)) (by decide) rfl
     obtain⟨⟨u0,u1,u2⟩,u3,u4,u5⟩:=Dq (Wp.out x hx)
     clear hY
     unfold Gives
     simp only[ai,Act.put,List.getD_cons_zero,List.getD_cons_succ,List.setIfInBounds_toArray,List.set_cons_zero,List.set_cons_succ,h7]
     go_simp
     exact⟨(Mv.refl (λ_=>False)) x,kr (by decide) rfl rfl,by intros;assumption⟩
    case s9 =>
     intro vs x hx hY
     clear hY
     unfold Gives
     simp only[ai,Act.put,List.getD_cons_zero,List.getD_cons_succ,List.setIfInBounds_toArray,List.set_cons_zero,List.set_cons_succ]
     go_simp
     exact⟨(Mv.refl (λ_=>False)) x,kr (by decide) rfl rfl,by intros;assumption⟩
    case s10 =>
     intro vs x hx hY
     have h8:vs 8 = .slice (some ⟨pb,po,none⟩) xp.length xc:=eT (hY 8 (by simp) (by simp)) (by decide) rfl
     have h9:vs 9 = .int .i64 j:=eT (hY 9 (by simp) (by simp)) (by decide) rfl
     clear hY
     unfold Gives
     simp only[ai,Act.put,List.getD_cons_zero,List.getD_cons_succ,List.setIfInBounds_toArray,List.set_cons_zero,List.set_cons_succ,h8,h9]
     go_simp
     exact⟨(Mv.refl (λ_=>False)) x,kr (by decide) rfl rfl,by intros;assumption⟩
    case s11 =>
     intro vs x hx hY
     have h10:vs 10 = .pointer (some ⟨pb,po+j * 3,none⟩):=eT (hY 10 (by simp) (by simp)) (by decide) rfl
     clear hY
     unfold Gives
     simp only[ai,Act.put,List.getD_cons_zero,List.getD_cons_succ,List.setIfInBounds_toArray,List.set_cons_zero,List.set_cons_succ,h10]
     go_simp
     exact⟨(Mv.refl (λ_=>False)) x,kr (by decide) rfl rfl,by intros;assumption⟩
    case s12 =>
     intro vs x hx hY
     have h11:vs 11 = .pointer (some ⟨pb,po+j * 3+1,none⟩):=eT (hY 11 (by simp) (by simp)) (by decide) rfl
     have u1:=MI.out x hx 1 _ rfl
     clear hY
     unfold Gives
     simp only[ai,Act.put,List.getD_cons_zero,List.getD_cons_succ,List.setIfInBounds_toArray,List.set_cons_zero,List.set_cons_succ,h11]
     go_simp
     exact⟨(Mv.refl (λ_=>False)) x,kr (by decide) rfl rfl,by intros;assumption⟩
    case s13 =>
     intro vs x hx hY
     have h0:vs 0 = .agg #[.slice fa f.slots.length fc,.int .i64 f.cells,.int .i64 f.stacks,.slice ga procs.length gc]:=eT (hY 0 (by simp) (by simp)) (by decide) rfl
     have h6:vs 6 = .string ys:=eT (hY 6 (by simp) (by simp)) (by decide) rfl
     have h12:vs 12 = .int .u8 vk:=eT (hY 12 (by simp) (by simp)) (by decide) rfl
     have HC:=Lib.hid (Qz (.slice fa f.slots.length fc) (.slice ga procs.length gc) f ys vk x (oQ.out x hx) ga procs.length gc rfl)
     rw[HBV.out]at HC
     clear hY
     unfold Gives
     simp only[ai,Act.put,List.getD_cons_zero,List.getD_cons_succ,List.setIfInBounds_toArray,List.set_cons_zero,List.set_cons_succ,h0,h6,h12]
     go_simp
     refine HC.out.mono ?_
     rintro e y ⟨rfl,hg⟩
     exact⟨_,rfl,hg,kr (by decide) rfl rfl,by intros;exact aaT (λ_ h=>h) _ _ (by assumption)⟩
    case s14 =>
     intro vs x hx hY
     have GX:vs 13 = .bool bv:=eT (hY 13 (by simp) (by simp)) (by decide) rfl
     clear hY
     unfold Gives
     simp only[ai,Act.put,List.getD_cons_zero,List.getD_cons_succ,List.setIfInBounds_toArray,List.set_cons_zero,List.set_cons_succ,GX]
     go_simp
     exact⟨(Mv.refl (λ_=>False)) x,kr (by decide) rfl rfl,by intros;assumption⟩
   case done =>
   intro vs wx hx hY
   simp only[List.length_cons,List.length_nil,Nat.zero_add,Nat.reduceAdd]
   rw[show List.range 15=[0,1,2,3,4,5,6,7,8,9,10,11,12,13,14]from rfl]
   have h0:vs 0 = .agg #[.slice fa f.slots.length fc,.int .i64 f.cells,.int .i64 f.stacks,.slice ga procs.length gc]:=eT (hY 0 (by decide) rfl) (by decide) rfl
   have h1:vs 1 = .pointer (some ⟨w.heap.size+1,3,none⟩):=eT (hY 1 (by decide) rfl) (by decide) rfl
   have h2:vs 2 = .slice (some ⟨kb,ko,none⟩) l.length cap:=eT (hY 2 (by decide) rfl) (by decide) rfl
   have h3:vs 3 = .int .i64 j:=eT (hY 3 (by decide) rfl) (by decide) rfl
   have h4:vs 4 = .pointer (some ⟨kb,ko+j * 4,none⟩):=eT (hY 4 (by decide) rfl) (by decide) rfl
   have h5:vs 5 = .pointer (some ⟨kb,ko+j * 4+2,none⟩):=eT (hY 5 (by decide) rfl) (by decide) rfl
   have h6:vs 6 = .string ys:=eT (hY 6 (by decide) rfl) (by decide) rfl
   have h7:vs 7 = .pointer (some ⟨w2.heap.size,1,none⟩):=eT (hY 7 (by decide) rfl) (by decide) rfl
   have h8:vs 8 = .slice (some ⟨pb,po,none⟩) xp.length xc:=eT (hY 8 (by decide) rfl) (by decide) rfl
   have h9:vs 9 = .int .i64 j:=eT (hY 9 (by decide) rfl) (by decide) rfl
   have h10:vs 10 = .pointer (some ⟨pb,po+j * 3,none⟩):=eT (hY 10 (by decide) rfl) (by decide) rfl
   have h11:vs 11 = .pointer (some ⟨pb,po+j * 3+1,none⟩):=eT (hY 11 (by decide) rfl) (by decide) rfl
   have h12:vs 12 = .int .u8 vk:=eT (hY 12 (by decide) rfl) (by decide) rfl
   have GX:vs 13 = .bool bv:=eT (hY 13 (by decide) rfl) (by decide) rfl
   have Wq:vs 14 = .bool (!bv):=eT (hY 14 (by decide) rfl) (by decide) rfl
   simp only[ai,Act.put,List.getD_cons_zero,List.getD_cons_succ,List.setIfInBounds_toArray,List.set_cons_zero,List.set_cons_succ,h0,h1,h2,h3,h4,h5,h6,h7,h8,h9,h10,h11,h12,GX,Wq]
   clear hY h0 h1 h2 h3 h4 h5 h6 h7 h8 h9 h10 h11 h12 GX Wq
   have GY:=Lib.hid (Mv.trans (Mv.drew aS.out) hx (λ_ e=>e.elim))
   have adI:=Lib.hid (Mv.trans (Mv.drew aU.out) hx (λ_ e=>e.elim))
   clear hx MH MI Wo kL Wp oQ
   cases bv with
   |true =>
    have HT2:=Lib.hid (HT.out rfl)
    go_wp2_with fail
    go_roundw
    case rel=>exact⟨j+1,by go_num,by omega,HT2.out,adI.out⟩
    case measure=>simp[intOf];omega
   |false =>
    have HR:=Lib.hid (dX.out rfl)
    go_wp2_with fail
    go_ret
    exact⟨ax HR.out.symm,GY.out⟩
 obtain rfl:j=m:=by omega
 have HR:=Lib.hid (show qg f (procs.map aM.d) s (aa.ts l)=true from by
  rw[uK.out]
  refine List.all_eq_true.2 λx hx => ?_
  obtain⟨i,hi,rfl⟩:=List.mem_iff_getElem.1 hx
  have hi2:=hi
  rw[List.length_zip,aa.kN]at hi2
  rw[List.getElem_zip]
  have h1:i<l.length:=by omega
  rw[aa.yI l i h1]
  exact ek.out i h1 (by omega) (by rcases jN.out with h|h <;> omega))
 go_wp2_with fail
 go_ret
 exact⟨ax HR.out.symm,aS.out⟩
end Go.Proofs.YtadecgbblajifaaGreatDoor
