import Derived.Test.YtnobahchcongnaaGreatF08
set_option linter.unusedSimpArgs false
set_option linter.unusedVariables false
set_option maxRecDepth 100000
set_option maxHeartbeats 25600000
namespace Go.Proofs.YtnobahchcongnaaGreat
open Go.RowKit Go.Instr
def vU (l:List aU) (s:ByteArray):Option aU:=l.find? (λp=>p.name == s)
theorem Pz (l:List ak) (s:ByteArray):vU (l.map ak.d) s=(dY l s).map ak.d:=by
 unfold vU dY
 induction l with
 |nil=>rfl
 |cons p l ih =>
  simp only[List.map_cons,List.find?_cons];have:(p.d.name == s)=(p.name == s):=rfl;rw[this];cases(p.name == s)with
  |true=>rfl
  |false=>exact ih
def rJ (f:az) (procs:List aU) (name:ByteArray) (kids:List Tree):Bool:=match vU procs name with
 |none=>false
 |some p=>(kids.zip p.params).all λx=>(au f x.1.name x.2.kind).isSome
theorem aF {w:World} {X:Nat} {c0 c1 c2 c3:Value} {t:TypeId} (h:w.heap[X]? = some (.cells #[c0,c1,c2,c3] t (0,0))):(w.cell? ⟨X,0,none⟩=some c0/\w.cell? ⟨X,1,none⟩=some c1)/\w.cell? ⟨X,2,none⟩=some c2/\w.cell? ⟨X,3,none⟩=some c3:=by simp[World.cell?,h]
theorem Ny (sv pv:Value) (f:az) (procs:List ak) (k n:Int) (s:ByteArray) (kv:Value) (l:List ae) (w:World) (hf:fV w sv f) (hp:lC w pv procs) (hx:aS w (.mk k n s kv l)) :
 Calls Tryz.prog 101 #[.agg #[sv,.int .i64 f.cells,.int .i64 f.stacks,pv],ae.val (.mk k n s kv l)] w (iK w (rJ f (procs.map ak.d) s (ae.ts l))):=by
 obtain⟨fa,fc,rfl,hfc,hfl⟩:=hf.row.form;obtain⟨ga,gc,rfl,hgc,hgl⟩:=hp.row.form;obtain⟨a,cap,rfl,hcap,hlen⟩:=hx.form;have HF:=ł hf;have HP:=ł hp;have HX:=ł hx;clear hf hp hx;simp only[ae.val];have hg1:Grow w ((w.alloc (.cells #[.slice fa f.slots.length fc,.int .i64 f.cells,.int .i64 f.stacks,.slice ga procs.length gc] 85)).alloc (.cells #[.int .u8 k,.int .i64 n,.string s,.slice a l.length cap] 26)):=((Mv.refl _ _).alloc _).alloc _;have hU:=aO (heap_alloc_new w (.cells #[.slice fa f.slots.length fc,.int .i64 f.cells,.int .i64 f.stacks,.slice ga procs.length gc] 85)) (.cells #[.int .u8 k,.int .i64 n,.string s,.slice a l.length cap] 26);have hN:=heap_alloc_new (w.alloc (.cells #[.slice fa f.slots.length fc,.int .i64 f.cells,.int .i64 f.stacks,.slice ga procs.length gc] 85)) (.cells #[.int .u8 k,.int .i64 n,.string s,.slice a l.length cap] 26);rw[World.size_alloc]at hN;have bg:=ł hg1;have HU:=ł hU;have HN:=ł hN;have wP:=ł (Jo (.slice ga procs.length gc) procs s ((w.alloc (.cells #[.slice fa f.slots.length fc,.int .i64 f.cells,.int .i64 f.stacks,.slice ga procs.length gc] 85)).alloc (.cells #[.int .u8 k,.int .i64 n,.string s,.slice a l.length cap] 26)) (HP.out.later hg1));clear hg1 hU hN
 go_enter Tryz.func101,Tryz.ntmps101
 go_wp2_with fail;generalize (w.alloc (.cells #[.slice fa f.slots.length fc,.int .i64 f.cells,.int .i64 f.stacks,.slice ga procs.length gc] 85)).alloc (.cells #[.int .u8 k,.int .i64 n,.string s,.slice a l.length cap] 26)=w1 at *;refine wP.out.mono ?_;rintro e w2 ⟨rfl,hg2⟩;have HG2:=ł (Mv.trans bg.out hg2 (λ_ e=>e.elim));have LZ:=ai HU.out hg2;have fB:=ai HN.out hg2;have tL:=ł (Pz procs s);have hpo:=IJ (HP.out.later HG2.out) s;generalize hfp:dY procs s=fp at *;clear hg2 wP hfp;cases fp with
 |none =>
  have HR:=ł (show rJ f (procs.map ak.d) s (ae.ts l)=false from by unfold rJ;rw[tL.out];rfl);simp only[Option.getD_none,Option.isSome_none,gz,ak.val];clear hpo LZ fB;go_wp2_with fail;go_ret;exact⟨aL HR.out.symm,HG2.out.alloc _⟩
 |some p =>
 have Dy:=ł (show rJ f (procs.map ak.d) s (ae.ts l)=((ae.ts l).zip p.params).all (λx=>(au f x.1.name x.2.kind).isSome)from by unfold rJ;rw[tL.out];rfl);simp only[Option.getD_some,Option.isSome_some]at hpo ⊢;obtain⟨xn,xp,xpv,xb⟩:=p;obtain⟨xa,xc,rfl,wQ,hxl⟩:=hpo.form;have bY:=ł hpo.params;have uY:=hpo.body;obtain⟨bk,bn,bs,LY,bl⟩:=xb;simp only at uY bY Dy;obtain⟨ba,bc,rfl,-,-⟩:=uY.form;simp only[ak.val];have aG:=ł (HG2.out.alloc (.cells #[.string xn,.slice xa xp.length xc,.int .u8 bk,.int .i64 bn,.string bs,.slice ba bl.length bc] 35));have Dz:=ł (aO LZ (.cells #[.string xn,.slice xa xp.length xc,.int .u8 bk,.int .i64 bn,.string bs,.slice ba bl.length bc] 35));have nI:=ł (aO fB (.cells #[.string xn,.slice xa xp.length xc,.int .u8 bk,.int .i64 bn,.string bs,.slice ba bl.length bc] 35));have wR:=ł (heap_alloc_new w2 (.cells #[.string xn,.slice xa xp.length xc,.int .u8 bk,.int .i64 bn,.string bs,.slice ba bl.length bc] 35));have Ro:=ł (bY.out.later ((Mv.refl _ _).alloc (.cells #[.string xn,.slice xa xp.length xc,.int .u8 bk,.int .i64 bn,.string bs,.slice ba bl.length bc] 35)));obtain⟨⟨n0,n1⟩,n2,n3⟩:=aF fB;have hln:=lt_of_block fB;clear hpo uY LZ fB tL bY;go_wp2_with fail;clear n0 n1 n2 n3 hln;obtain⟨m,hm,hm1,hm2,qQ⟩:∃ m:Nat,min (l.length:Int) (xp.length:Int)=m/\m<=l.length/\m<=xp.length/\(m=l.length\/m=xp.length):=⟨min l.length xp.length,by omega,by omega,by omega,by omega⟩;rw[hm];have wS:=ł qQ;clear hm qQ;generalize w2.alloc (.cells #[.string xn,.slice xa xp.length xc,.int .u8 bk,.int .i64 bn,.string bs,.slice ba bl.length bc] 35)=w3 at *
 go_loopw [25] (λt wr=>∃ j:Nat,t = .int .i64 j/\j<=m/\(∀ i (h1:i<l.length) (h2:i<xp.length),i<j->(au f l[i].t.name xp[i].kind).isSome=true)/\Grow w3 wr) (λt _=>m - (intOf t).toNat)
 case atStart=>exact⟨0,rfl,Nat.zero_le _,λi _ _ h=>by omega,Mv.refl _ _⟩
 obtain⟨j,rfl,hj,hall,hgr⟩:=hrel;have dP:=ł hall;have dh:=ł hgr;have bE:=ł (Mv.trans aG.out hgr (λ_ e=>e.elim));clear hall hgr;by_cases hlt:j<m
 · have hjl:j<l.length:=by omega
   have hjp:j<xp.length:=by omega
   obtain⟨kb,ko,cap',e,_,hcc⟩:=HX.out.row.2.2.2.1.at hjl;simp only[Value.slice.injEq,true_and]at e;obtain⟨rfl,rfl⟩:=e;obtain⟨pb,po,cap2,e,_,hcp⟩:=Ro.out.at hjp;simp only[Value.slice.injEq,true_and]at e;obtain⟨rfl,rfl⟩:=e;have HT:=ł (show(au f l[j].t.name xp[j].kind).isSome=true->∀ i (h1:i<l.length) (h2:i<xp.length),i<j+1->(au f l[i].t.name xp[i].kind).isSome=true from λh i h1 h2 hij=>by
    rcases Nat.lt_or_ge i j with h3|h3
    · exact dP.out i h1 h2 h3
    · obtain rfl:i=j:=by omega
      exact h)
   have dS:=ł (show(au f l[j].t.name xp[j].kind).isSome=false->rJ f (procs.map ak.d) s (ae.ts l)=false from λh=>by
    rw[Dy.out];refine List.all_eq_false.2 ⟨(l[j].t,xp[j]),?_,by simp[h]⟩;have hz:j<((ae.ts l).zip xp).length:=by rw[List.length_zip,ae.bT];omega
    have:((ae.ts l).zip xp)[j]=(l[j].t,xp[j]):=by rw[List.getElem_zip,ae.gm l j hjl]
    rw[← this];exact List.getElem_mem hz)
   have L6:=ł (λ(x:World) (hx:Grow wr.drew x)=>(HX.out.row.2.2.2.1.later (Mv.trans (Mv.drew bE.out) hx (λ_ e=>e.elim))).at' hjl);have L8:=ł (λ(x:World) (hx:Grow wr.drew x)=>(Ro.out.later (Mv.trans (Mv.drew dh.out) hx (λ_ e=>e.elim))).at' hjp);have TW:=ł (λ(x:World) (hx:Grow wr.drew x)=>ai (show(wr.drew).heap[w.heap.size]? = _ from ai Dz.out (Mv.drew dh.out)) hx);have iR:=ł (λ(x:World) (hx:Grow wr.drew x)=>ai (show(wr.drew).heap[w.heap.size+1]? = _ from ai nI.out (Mv.drew dh.out)) hx);have rU:=ł (λ(x:World) (hx:Grow wr.drew x)=>ai (show(wr.drew).heap[w2.heap.size]? = _ from ai wR.out (Mv.drew dh.out)) hx);have mH:=ł (λ(x:World) (hx:Grow wr.drew x)=>HF.out.later (Mv.trans (Mv.drew bE.out) hx (λ_ e=>e.elim)));have bU:=HX.out.row.2.2.2.2 l[j] (List.getElem_mem hjl);generalize l[j]=y at HT dS L6 bU hcc;generalize xp[j]=vd at HT dS L8 hcp;obtain⟨yk,yn,ys,mY,yl⟩:=y;obtain⟨vn,vk,vl⟩:=vd;simp only[ae.t,Tree.name]at HT dS;generalize hbv:(au f ys vk).isSome=bv at *;have HBV:=ł hbv;clear hcc hcp bU hbv;go_wp2_with fail;refine BG (by kernel_rfl) 44 [some 28,some 29,some 30,some 31,some 32,some 33,some 34,some 35,some 36,some 37,some 38,some 39,some 40,some 41,some 42] [[],[],[1],[],[2,3],[4],[5],[],[7],[],[8,9],[10],[11],[0,6,12],[13]] [[],[],[1],[],[2,3],[4],[5],[],[7],[],[8,9],[10],[11],[0,6,12],[13]] [[0],[1],[2],[3],[4],[5],[6],[7],[8],[9],[10],[11],[12],[13],[14]] [] rfl (by kernel_rfl) (Mv (λ_=>False)) (Mv.refl (λ_=>False)) (λx y z h1 h2=>Mv.trans h1 h2 (λ_ e=>e.elim)) (YC [some (.agg #[.slice fa f.slots.length fc,.int .i64 f.cells,.int .i64 f.stacks,.slice ga procs.length gc]),some (.pointer (some ⟨w.heap.size+1,3,none⟩)),some (.slice (some ⟨kb,ko,none⟩) l.length cap),some (.int .i64 j),some (.pointer (some ⟨kb,ko+j * 4,none⟩)),some (.pointer (some ⟨kb,ko+j * 4+2,none⟩)),some (.string ys),some (.pointer (some ⟨w2.heap.size,1,none⟩)),some (.slice (some ⟨pb,po,none⟩) xp.length xc),some (.int .i64 j),some (.pointer (some ⟨pb,po+j * 3,none⟩)),some (.pointer (some ⟨pb,po+j * 3+1,none⟩)),some (.int .u8 vk),some (.bool bv),some (.bool (!bv))] 99 (λ_ _=>True)) ?steps ?done
   case steps =>
    refine⟨?s0,?s1,?s2,?s3,?s4,?s5,?s6,?s7,?s8,?s9,?s10,?s11,?s12,?s13,?s14,trivial⟩
    case s0 =>
     intro vs x hx hY;obtain⟨⟨u0,u1⟩,u2,u3⟩:=aF (TW.out x hx);clear hY;simp only[zR];go_simp;exact⟨(Mv.refl (λ_=>False)) x,iL (by decide) rfl rfl,by intros;assumption⟩
    case s1|s3|s7|s9 =>
     intro vs x hx hY;clear hY;simp only[zR];go_simp;exact⟨(Mv.refl (λ_=>False)) x,iL (by decide) rfl rfl,by intros;assumption⟩
    case s2 =>
     intro vs x hx hY;have h1:vs 1 = .pointer (some ⟨w.heap.size+1,3,none⟩):=cZ (hY 1 (by simp) (by simp)) (by decide) rfl;obtain⟨⟨u0,u1⟩,u2,u3⟩:=aF (iR.out x hx);clear hY;simp only[zR,h1];go_simp;exact⟨(Mv.refl (λ_=>False)) x,iL (by decide) rfl rfl,by intros;assumption⟩
    case s4 =>
     intro vs x hx hY;have h2:vs 2 = .slice (some ⟨kb,ko,none⟩) l.length cap:=cZ (hY 2 (by simp) (by simp)) (by decide) rfl;have h3:vs 3 = .int .i64 j:=cZ (hY 3 (by simp) (by simp)) (by decide) rfl;clear hY;simp only[zR,h2,h3];go_simp;exact⟨(Mv.refl (λ_=>False)) x,iL (by decide) rfl rfl,by intros;assumption⟩
    case s5 =>
     intro vs x hx hY;have h4:vs 4 = .pointer (some ⟨kb,ko+j * 4,none⟩):=cZ (hY 4 (by simp) (by simp)) (by decide) rfl;clear hY;simp only[zR,h4];go_simp;exact⟨(Mv.refl (λ_=>False)) x,iL (by decide) rfl rfl,by intros;assumption⟩
    case s6 =>
     intro vs x hx hY;have h5:vs 5 = .pointer (some ⟨kb,ko+j * 4+2,none⟩):=cZ (hY 5 (by simp) (by simp)) (by decide) rfl;have u2:=L6.out x hx 2 _ rfl;clear hY;simp only[zR,h5];go_simp;exact⟨(Mv.refl (λ_=>False)) x,iL (by decide) rfl rfl,by intros;assumption⟩
    case s8 =>
     intro vs x hx hY;have h7:vs 7 = .pointer (some ⟨w2.heap.size,1,none⟩):=cZ (hY 7 (by simp) (by simp)) (by decide) rfl;obtain⟨⟨u0,u1,u2⟩,u3,u4,u5⟩:=dK (rU.out x hx);clear hY;simp only[zR,h7];go_simp;exact⟨(Mv.refl (λ_=>False)) x,iL (by decide) rfl rfl,by intros;assumption⟩
    case s10 =>
     intro vs x hx hY;have h8:vs 8 = .slice (some ⟨pb,po,none⟩) xp.length xc:=cZ (hY 8 (by simp) (by simp)) (by decide) rfl;have h9:vs 9 = .int .i64 j:=cZ (hY 9 (by simp) (by simp)) (by decide) rfl;clear hY;simp only[zR,h8,h9];go_simp;exact⟨(Mv.refl (λ_=>False)) x,iL (by decide) rfl rfl,by intros;assumption⟩
    case s11 =>
     intro vs x hx hY;have h10:vs 10 = .pointer (some ⟨pb,po+j * 3,none⟩):=cZ (hY 10 (by simp) (by simp)) (by decide) rfl;clear hY;simp only[zR,h10];go_simp;exact⟨(Mv.refl (λ_=>False)) x,iL (by decide) rfl rfl,by intros;assumption⟩
    case s12 =>
     intro vs x hx hY;have h11:vs 11 = .pointer (some ⟨pb,po+j * 3+1,none⟩):=cZ (hY 11 (by simp) (by simp)) (by decide) rfl;have u1:=L8.out x hx 1 _ rfl;clear hY;simp only[zR,h11];go_simp;exact⟨(Mv.refl (λ_=>False)) x,iL (by decide) rfl rfl,by intros;assumption⟩
    case s13 =>
     intro vs x hx hY;have h0:vs 0 = .agg #[.slice fa f.slots.length fc,.int .i64 f.cells,.int .i64 f.stacks,.slice ga procs.length gc]:=cZ (hY 0 (by simp) (by simp)) (by decide) rfl;have h6:vs 6 = .string ys:=cZ (hY 6 (by simp) (by simp)) (by decide) rfl;have h12:vs 12 = .int .u8 vk:=cZ (hY 12 (by simp) (by simp)) (by decide) rfl;have HC:=ł (Qi (.slice fa f.slots.length fc) (.slice ga procs.length gc) f ys vk x (mH.out x hx) ga procs.length gc rfl);rw[HBV.out]at HC;clear hY;simp only[zR,h0,h6,h12];go_simp;refine HC.out.mono ?_;rintro e y ⟨rfl,hg⟩;exact⟨_,rfl,hg,iL (by decide) rfl rfl,by intros;exact Zz (λ_ h=>h) _ _ (by assumption)⟩
    case s14 =>
     intro vs x hx hY;have lg:vs 13 = .bool bv:=cZ (hY 13 (by simp) (by simp)) (by decide) rfl;clear hY;simp only[zR,lg];go_simp;exact⟨(Mv.refl (λ_=>False)) x,iL (by decide) rfl rfl,by intros;assumption⟩
   case done =>
   intro vs wx hx hY;simp only[List.length_cons,List.length_nil,Nat.zero_add,Nat.reduceAdd];rw[show List.range 15=[0,1,2,3,4,5,6,7,8,9,10,11,12,13,14]from rfl];have h0:vs 0 = .agg #[.slice fa f.slots.length fc,.int .i64 f.cells,.int .i64 f.stacks,.slice ga procs.length gc]:=cZ (hY 0 (by decide) rfl) (by decide) rfl;have h1:vs 1 = .pointer (some ⟨w.heap.size+1,3,none⟩):=cZ (hY 1 (by decide) rfl) (by decide) rfl;have h2:vs 2 = .slice (some ⟨kb,ko,none⟩) l.length cap:=cZ (hY 2 (by decide) rfl) (by decide) rfl;have h3:vs 3 = .int .i64 j:=cZ (hY 3 (by decide) rfl) (by decide) rfl;have h4:vs 4 = .pointer (some ⟨kb,ko+j * 4,none⟩):=cZ (hY 4 (by decide) rfl) (by decide) rfl;have h5:vs 5 = .pointer (some ⟨kb,ko+j * 4+2,none⟩):=cZ (hY 5 (by decide) rfl) (by decide) rfl;have h6:vs 6 = .string ys:=cZ (hY 6 (by decide) rfl) (by decide) rfl;have h7:vs 7 = .pointer (some ⟨w2.heap.size,1,none⟩):=cZ (hY 7 (by decide) rfl) (by decide) rfl;have h8:vs 8 = .slice (some ⟨pb,po,none⟩) xp.length xc:=cZ (hY 8 (by decide) rfl) (by decide) rfl;have h9:vs 9 = .int .i64 j:=cZ (hY 9 (by decide) rfl) (by decide) rfl;have h10:vs 10 = .pointer (some ⟨pb,po+j * 3,none⟩):=cZ (hY 10 (by decide) rfl) (by decide) rfl;have h11:vs 11 = .pointer (some ⟨pb,po+j * 3+1,none⟩):=cZ (hY 11 (by decide) rfl) (by decide) rfl;have h12:vs 12 = .int .u8 vk:=cZ (hY 12 (by decide) rfl) (by decide) rfl;have lg:vs 13 = .bool bv:=cZ (hY 13 (by decide) rfl) (by decide) rfl;have lh:vs 14 = .bool (!bv):=cZ (hY 14 (by decide) rfl) (by decide) rfl;simp only[zR,h0,h1,h2,h3,h4,h5,h6,h7,h8,h9,h10,h11,h12,lg,lh];clear hY h0 h1 h2 h3 h4 h5 h6 h7 h8 h9 h10 h11 h12 lg lh;have HGZ:=ł (Mv.trans (Mv.drew bE.out) hx (λ_ e=>e.elim));have _Q:=ł (Mv.trans (Mv.drew dh.out) hx (λ_ e=>e.elim));clear hx L6 L8 TW iR rU mH;cases bv with
   |true =>
    have HT2:=ł (HT.out rfl);go_wp2_with fail
    go_roundw
    case rel=>exact⟨j+1,by go_num,by omega,HT2.out,_Q.out⟩
    case measure=>simp[intOf];omega
   |false =>
    have HR:=ł (dS.out rfl);go_wp2_with fail;go_ret;exact⟨aL HR.out.symm,HGZ.out⟩
 obtain rfl:j=m:=by omega
 have HR:=ł (show rJ f (procs.map ak.d) s (ae.ts l)=true from by
  rw[Dy.out];refine List.all_eq_true.2 λx hx => ?_;obtain⟨i,hi,rfl⟩:=List.mem_iff_getElem.1 hx;have hi2:=hi;rw[List.length_zip,ae.bT]at hi2;rw[List.getElem_zip];have h1:i<l.length:=by omega
  rw[ae.gm l i h1];exact dP.out i h1 (by omega) (by rcases wS.out with h|h <;> omega))
 go_wp2_with fail;go_ret;exact⟨aL HR.out.symm,bE.out⟩
mutual
def dm (f:az) (procs:List aU):Tree->Bool
 |.mk k _ s l =>
  if k=2\/k=54 then(au f s 1).isSome && kN f procs l
  else if k=3 then(au f s 2).isSome && kN f procs l
  else if k=4\/k=5\/k=44\/k=45\/k=55 then(au f s 3).isSome && kN f procs l
  else if k=50\/k=51 then rJ f procs s l
  else kN f procs l
def kN (f:az) (procs:List aU):List Tree->Bool
 | []=>true
 |t :: l=>(t.kind == 57 || dm f procs t) && kN f procs l
end
theorem Ar (f:az) (procs:List aU) (l:List Tree):kN f procs l=l.all λt=>t.kind == 57 || dm f procs t:=by
 induction l with
 |nil=>rw[kN];rfl
 |cons t l ih=>rw[kN,ih];rfl
theorem XU (sv pv:Value) (f:az) (procs:List ak):∀ (m:Nat) (x:ae),SizeOf.sizeOf x<=m->∀ w:World,fV w sv f->lC w pv procs->aS w x ->
 Calls Tryz.prog 79 #[.agg #[sv,.int .i64 f.cells,.int .i64 f.stacks,pv],x.val] w (iK w (dm f (procs.map ak.d) x.t)):=by
 intro m
 induction m with
 |zero=>intro x hm;cases x;simp at hm
 |succ m ih =>
  intro x hm w hf hp hx;obtain⟨k,n,s,kv,l⟩:=x;obtain⟨a,cap,rfl,hcap,hlen⟩:=hx.form;obtain⟨fa,fc,rfl,hfc,hfl⟩:=hf.row.form;obtain⟨ga,gc,rfl,hgc,hgl⟩:=hp.row.form;have fT:=ł (λ(y:ae) (hy:y∈l) (w':World) (hg:Grow w w')=>ih y (by have:=nA (k:=k) (n:=n) (s:=s) (kv := .slice a l.length cap) hy;omega) w' (hf.later hg) (hp.later hg) ((hx.row.2.2.2.2 y hy).later hg));have HF:=ł hf;have HP:=ł hp;have HX:=ł hx;clear ih hm hf hp hx;simp only[ae.val,ae.t];by_cases h8:k=2\/k=54\/k=3\/k=4\/k=5\/k=44\/k=45\/k=55
  · obtain⟨q,hq⟩:∃ q:Int,(q=1/\(k=2\/k=54))\/(q=2/\k=3)\/(q=3/\(k=4\/k=5\/k=44\/k=45\/k=55)):=by
     by_cases e1:k=2\/k=54
     · exact⟨1,.inl ⟨rfl,e1⟩⟩
     · by_cases e2:k=3
       · exact⟨2,.inr (.inl ⟨rfl,e2⟩)⟩
       · exact⟨3,.inr (.inr ⟨rfl,by omega⟩)⟩
    clear h8;have hg1:Grow w ((w.alloc (.cells #[.slice fa f.slots.length fc,.int .i64 f.cells,.int .i64 f.stacks,.slice ga procs.length gc] 85)).alloc (.cells #[.int .u8 k,.int .i64 n,.string s,.slice a l.length cap] 26)):=((Mv.refl _ _).alloc _).alloc _;have hU:=aO (heap_alloc_new w (.cells #[.slice fa f.slots.length fc,.int .i64 f.cells,.int .i64 f.stacks,.slice ga procs.length gc] 85)) (.cells #[.int .u8 k,.int .i64 n,.string s,.slice a l.length cap] 26);have hN:=heap_alloc_new (w.alloc (.cells #[.slice fa f.slots.length fc,.int .i64 f.cells,.int .i64 f.stacks,.slice ga procs.length gc] 85)) (.cells #[.int .u8 k,.int .i64 n,.string s,.slice a l.length cap] 26);rw[World.size_alloc]at hN;have bg:=ł hg1;have HU:=ł hU;have HN:=ł hN;clear hg1 hU hN;have kG:=ł (Qi (.slice fa f.slots.length fc) (.slice ga procs.length gc) f s q ((w.alloc (.cells #[.slice fa f.slots.length fc,.int .i64 f.cells,.int .i64 f.stacks,.slice ga procs.length gc] 85)).alloc (.cells #[.int .u8 k,.int .i64 n,.string s,.slice a l.length cap] 26)) (HF.out.later bg.out) ga procs.length gc rfl);have dQ:=ł (show(au f s q).isSome=true->dm f (procs.map ak.d) (.mk k n s (ae.ts l))=kN f (procs.map ak.d) (ae.ts l)from λh=>by rcases hq with⟨rfl,rfl|rfl⟩|⟨rfl,rfl⟩|⟨rfl,rfl|rfl|rfl|rfl|rfl⟩ <;> simp[dm,h]);have wT:=ł (show(au f s q).isSome=false->dm f (procs.map ak.d) (.mk k n s (ae.ts l))=false from λh=>by rcases hq with⟨rfl,rfl|rfl⟩|⟨rfl,rfl⟩|⟨rfl,rfl|rfl|rfl|rfl|rfl⟩ <;> simp[dm,h]);generalize dm f (procs.map ak.d) (.mk k n s (ae.ts l))=NB at *;generalize (au f s q).isSome=pb at *;obtain⟨w1,hw1⟩:∃ w1:World,w1=((w.alloc (.cells #[.slice fa f.slots.length fc,.int .i64 f.cells,.int .i64 f.stacks,.slice ga procs.length gc] 85)).alloc (.cells #[.int .u8 k,.int .i64 n,.string s,.slice a l.length cap] 26)):=⟨_,rfl⟩;rw[← hw1]at bg HU HN kG;have HW:=ł hw1;clear hw1;rcases hq with⟨rfl,rfl|rfl⟩|⟨rfl,rfl⟩|⟨rfl,rfl|rfl|rfl|rfl|rfl⟩
    all_goals
     go_enter Tryz.func79,Tryz.ntmps79
     go_wp2_with fail;rw[← HW.out];refine kG.out.mono ?_;rintro e w2 ⟨rfl,hg2⟩;have jV:=ł (Mv.trans bg.out hg2 (λ_ e=>e.elim));have qR:=ł (ai HU.out hg2);have fB:=ai HN.out hg2;obtain⟨⟨n0,n1⟩,n2,n3⟩:=aF fB;have hln:=lt_of_block fB;clear hg2 fB kG;cases pb with
     |false =>
      have HR:=ł (wT.out rfl);go_wp2_with fail;go_ret;exact⟨aL HR.out.symm,jV.out⟩
     |true =>
     have pz:=ł (dQ.out rfl);clear dQ;have dQ:=pz;clear pz;go_wp2_with fail;clear n0 n1 n2 n3 hln
     go_loopw [44] (λt wr=>∃ j:Nat,t = .int .i64 j/\j<=l.length/\(∀ i (h1:i<l.length),i<j->(l[i].t.kind == 57 || dm f (procs.map ak.d) l[i].t)=true)/\Grow w2 wr) (λt _=>l.length - (intOf t).toNat)
     case atStart=>exact⟨0,rfl,Nat.zero_le _,λi _ h=>by omega,Mv.refl _ _⟩
     obtain⟨j,rfl,hj,hall,hgr⟩:=hrel;have dP:=ł hall;have dh:=ł hgr;have bE:=ł (Mv.trans jV.out hgr (λ_ e=>e.elim));have eu:=ai qR.out hgr;obtain⟨⟨u0,u1⟩,u2,u3⟩:=aF eu;have mZ:=lt_of_block eu;clear hall hgr eu;by_cases hlt:j<l.length
     · obtain⟨b,off,cap',e,_,hcc⟩:=(HX.out.row.2.2.2.1.later bE.out).at hlt;simp only[Value.slice.injEq,true_and]at e;obtain⟨rfl,rfl⟩:=e;have bU:=HX.out.row.2.2.2.2 l[j] (List.getElem_mem hlt);have HI:=ł (λw' (h:Grow wr w')=>fT.out l[j] (List.getElem_mem hlt) w' (Mv.trans bE.out h (λ_ e=>e.elim)));have HST:=ł (show((l[j].t.kind == 57 || dm f (procs.map ak.d) l[j].t)=true->∀ i (h1:i<l.length),i<j+1->(l[i].t.kind == 57 || dm f (procs.map ak.d) l[i].t)=true)from λh i h1 hij=>by
        rcases Nat.lt_or_ge i j with h3|h3
        · exact dP.out i h1 h3
        · obtain rfl:i=j:=by omega
          exact h)
       have dS:=ł (show((l[j].t.kind == 57 || dm f (procs.map ak.d) l[j].t)=false->kN f (procs.map ak.d) (ae.ts l)=false)from λh=>by
        rw[Ar];exact List.all_eq_false.2 ⟨l[j].t,by rw[ae.ku];exact List.mem_map.2 ⟨l[j],List.getElem_mem hlt,rfl⟩,by rw[h];simp⟩)
       generalize l[j]=y at HST dS HI bU hcc;obtain⟨yk,yn,ys,mY,yl⟩:=y;obtain⟨ya,yc,rfl,-,-⟩:=bU.form;simp only[ae.val]at HI;have c0:=hcc 0 _ rfl;have c1:=hcc 1 _ rfl;have c2:=hcc 2 _ rfl;have c3:=hcc 3 _ rfl;simp only[Nat.add_zero]at c0;have hbl:b<wr.heap.size:=World.block_lt_of_cell? wr _ c0;have aK:=ł (dh.out.alloc (.cells #[.int .u8 yk,.int .i64 yn,.string ys,.slice ya yl.length yc] 26));have eB:=ł (bE.out.alloc (.cells #[.int .u8 yk,.int .i64 yn,.string ys,.slice ya yl.length yc] 26));have HK:=ł (show(ae.mk yk yn ys (.slice ya yl.length yc) yl).t.kind=yk from by simp[ae.t,Tree.kind]);rw[HK.out]at HST dS;by_cases y8:yk=57
       · subst y8;have aY:=ł (HST.out (by simp));clear hcc bU;go_wp2_with fail
         go_roundw
         case rel=>exact⟨j+1,by go_num,by omega,aY.out,aK.out⟩
         case measure=>simp[intOf];omega
       · have hkn:(yk != 57)=true:=by simpa using y8
         have hkn2:(yk == 57)=false:=by simpa using y8
         have HC:=ł (HI.out (wr.alloc (.cells #[.int .u8 yk,.int .i64 yn,.string ys,.slice ya yl.length yc] 26)) ((Mv.refl _ _).alloc _));rw[hkn2,Bool.false_or]at HST dS;generalize dm f (procs.map ak.d) (ae.mk yk yn ys (.slice ya yl.length yc) yl).t=bv at *;clear hcc bU;go_wp2_with fail;refine HC.out.mono ?_;rintro e w5 ⟨rfl,hg5⟩;have aT:=ł (Mv.trans aK.out hg5 (λ_ e=>e.elim));have dw:=ł (Mv.trans eB.out hg5 (λ_ e=>e.elim));clear hg5;cases bv with
         |true =>
          have aY:=ł (HST.out rfl);go_wp2_with fail
          go_roundw
          case rel=>exact⟨j+1,by go_num,by omega,aY.out,aT.out⟩
          case measure=>simp[intOf];omega
         |false =>
          have HR:=ł (show NB=false from by rw[dQ.out,dS.out rfl]);go_wp2_with fail;go_ret;exact⟨aL HR.out.symm,dw.out⟩
     obtain rfl:j=l.length:=by omega
     have HR:=ł (show NB=true from by
      rw[dQ.out,Ar];refine List.all_eq_true.2 λt ht => ?_;rw[ae.ku]at ht;obtain⟨x,hx,rfl⟩:=List.mem_map.1 ht;obtain⟨i,hi,rfl⟩:=List.mem_iff_getElem.1 hx;exact dP.out i hi hi)
     go_wp2_with fail;go_ret;exact⟨aL HR.out.symm,bE.out⟩
  have h2:k≠2:=by omega
  have jJ:k≠54:=by omega
  have h3:k≠3:=by omega
  have h4:k≠4:=by omega
  have h5:k≠5:=by omega
  have oq:k≠44:=by omega
  have h45:k≠45:=by omega
  have jK:k≠55:=by omega
  clear h8;by_cases h50:k=50
  · subst h50;have hg1:Grow w ((w.alloc (.cells #[.slice fa f.slots.length fc,.int .i64 f.cells,.int .i64 f.stacks,.slice ga procs.length gc] 85)).alloc (.cells #[.int .u8 50,.int .i64 n,.string s,.slice a l.length cap] 26)):=((Mv.refl _ _).alloc _).alloc _;have hU:=aO (heap_alloc_new w (.cells #[.slice fa f.slots.length fc,.int .i64 f.cells,.int .i64 f.stacks,.slice ga procs.length gc] 85)) (.cells #[.int .u8 50,.int .i64 n,.string s,.slice a l.length cap] 26);have hN:=heap_alloc_new (w.alloc (.cells #[.slice fa f.slots.length fc,.int .i64 f.cells,.int .i64 f.stacks,.slice ga procs.length gc] 85)) (.cells #[.int .u8 50,.int .i64 n,.string s,.slice a l.length cap] 26);rw[World.size_alloc]at hN;have bg:=ł hg1;have HU:=ł hU;have HN:=ł hN;clear hg1 hU hN;have kG:=ł (Ny (.slice fa f.slots.length fc) (.slice ga procs.length gc) f procs 50 n s (.slice a l.length cap) l ((w.alloc (.cells #[.slice fa f.slots.length fc,.int .i64 f.cells,.int .i64 f.stacks,.slice ga procs.length gc] 85)).alloc (.cells #[.int .u8 50,.int .i64 n,.string s,.slice a l.length cap] 26)) (HF.out.later bg.out) (HP.out.later bg.out) (HX.out.later bg.out));simp only[ae.val]at kG;have HR:=ł (show dm f (procs.map ak.d) (.mk 50 n s (ae.ts l))=rJ f (procs.map ak.d) s (ae.ts l)from by simp[dm])
    go_enter Tryz.func79,Tryz.ntmps79
    go_wp2_with fail;generalize ((w.alloc (.cells #[.slice fa f.slots.length fc,.int .i64 f.cells,.int .i64 f.stacks,.slice ga procs.length gc] 85)).alloc (.cells #[.int .u8 50,.int .i64 n,.string s,.slice a l.length cap] 26))=w1 at *;refine kG.out.mono ?_;rintro e w2 ⟨rfl,hg2⟩;have jV:=ł (Mv.trans bg.out hg2 (λ_ e=>e.elim));clear hg2;go_wp2_with fail;go_ret;exact⟨aL HR.out.symm,jV.out⟩
  by_cases kZ:k=51
  · subst kZ;have hg1:Grow w ((w.alloc (.cells #[.slice fa f.slots.length fc,.int .i64 f.cells,.int .i64 f.stacks,.slice ga procs.length gc] 85)).alloc (.cells #[.int .u8 51,.int .i64 n,.string s,.slice a l.length cap] 26)):=((Mv.refl _ _).alloc _).alloc _;have hU:=aO (heap_alloc_new w (.cells #[.slice fa f.slots.length fc,.int .i64 f.cells,.int .i64 f.stacks,.slice ga procs.length gc] 85)) (.cells #[.int .u8 51,.int .i64 n,.string s,.slice a l.length cap] 26);have hN:=heap_alloc_new (w.alloc (.cells #[.slice fa f.slots.length fc,.int .i64 f.cells,.int .i64 f.stacks,.slice ga procs.length gc] 85)) (.cells #[.int .u8 51,.int .i64 n,.string s,.slice a l.length cap] 26);rw[World.size_alloc]at hN;have bg:=ł hg1;have HU:=ł hU;have HN:=ł hN;clear hg1 hU hN;have kG:=ł (Ny (.slice fa f.slots.length fc) (.slice ga procs.length gc) f procs 51 n s (.slice a l.length cap) l ((w.alloc (.cells #[.slice fa f.slots.length fc,.int .i64 f.cells,.int .i64 f.stacks,.slice ga procs.length gc] 85)).alloc (.cells #[.int .u8 51,.int .i64 n,.string s,.slice a l.length cap] 26)) (HF.out.later bg.out) (HP.out.later bg.out) (HX.out.later bg.out));simp only[ae.val]at kG;have HR:=ł (show dm f (procs.map ak.d) (.mk 51 n s (ae.ts l))=rJ f (procs.map ak.d) s (ae.ts l)from by simp[dm])
    go_enter Tryz.func79,Tryz.ntmps79
    go_wp2_with fail;generalize ((w.alloc (.cells #[.slice fa f.slots.length fc,.int .i64 f.cells,.int .i64 f.stacks,.slice ga procs.length gc] 85)).alloc (.cells #[.int .u8 51,.int .i64 n,.string s,.slice a l.length cap] 26))=w1 at *;refine kG.out.mono ?_;rintro e w2 ⟨rfl,hg2⟩;have jV:=ł (Mv.trans bg.out hg2 (λ_ e=>e.elim));clear hg2;go_wp2_with fail;go_ret;exact⟨aL HR.out.symm,jV.out⟩
  have hr2:(k == 2)=false:=by simpa using h2
  have _J:(k == 54)=false:=by simpa using jJ
  have hr3:(k == 3)=false:=by simpa using h3
  have hr4:(k == 4)=false:=by simpa using h4
  have zI:(k == 5)=false:=by simpa using h5
  have _F:(k == 44)=false:=by simpa using oq
  have _G:(k == 45)=false:=by simpa using h45
  have _O:(k == 55)=false:=by simpa using jK
  have _H:(k == 50)=false:=by simpa using h50
  have _I:(k == 51)=false:=by simpa using kZ
  have hg1:Grow w ((w.alloc (.cells #[.slice fa f.slots.length fc,.int .i64 f.cells,.int .i64 f.stacks,.slice ga procs.length gc] 85)).alloc (.cells #[.int .u8 k,.int .i64 n,.string s,.slice a l.length cap] 26)):=((Mv.refl _ _).alloc _).alloc _;have hU:=aO (heap_alloc_new w (.cells #[.slice fa f.slots.length fc,.int .i64 f.cells,.int .i64 f.stacks,.slice ga procs.length gc] 85)) (.cells #[.int .u8 k,.int .i64 n,.string s,.slice a l.length cap] 26);have hN:=heap_alloc_new (w.alloc (.cells #[.slice fa f.slots.length fc,.int .i64 f.cells,.int .i64 f.stacks,.slice ga procs.length gc] 85)) (.cells #[.int .u8 k,.int .i64 n,.string s,.slice a l.length cap] 26);rw[World.size_alloc]at hN;have bg:=ł hg1;have HU:=ł hU;have HN:=ł hN;clear hg1 hU hN;have dQ:=ł (show dm f (procs.map ak.d) (.mk k n s (ae.ts l))=kN f (procs.map ak.d) (ae.ts l)from by simp[dm,h2,jJ,h3,h4,h5,oq,h45,jK,h50,kZ]);have jV:=bg;have qR:=HU;obtain⟨⟨n0,n1⟩,n2,n3⟩:=aF HN.out;have hln:=lt_of_block HN.out;clear h2 jJ h3 h4 h5 oq h45 jK h50 kZ
  go_enter Tryz.func79,Tryz.ntmps79
  go_wp2_with fail;clear n0 n1 n2 n3 hln;generalize ((w.alloc (.cells #[.slice fa f.slots.length fc,.int .i64 f.cells,.int .i64 f.stacks,.slice ga procs.length gc] 85)).alloc (.cells #[.int .u8 k,.int .i64 n,.string s,.slice a l.length cap] 26))=w1 at *
  go_loopw [44] (λt wr=>∃ j:Nat,t = .int .i64 j/\j<=l.length/\(∀ i (h1:i<l.length),i<j->(l[i].t.kind == 57 || dm f (procs.map ak.d) l[i].t)=true)/\Grow w1 wr) (λt _=>l.length - (intOf t).toNat)
  case atStart=>exact⟨0,rfl,Nat.zero_le _,λi _ h=>by omega,Mv.refl _ _⟩
  obtain⟨j,rfl,hj,hall,hgr⟩:=hrel;have dP:=ł hall;have dh:=ł hgr;have bE:=ł (Mv.trans jV.out hgr (λ_ e=>e.elim));have eu:=ai qR.out hgr;obtain⟨⟨u0,u1⟩,u2,u3⟩:=aF eu;have mZ:=lt_of_block eu;clear hall hgr eu;by_cases hlt:j<l.length
  · obtain⟨b,off,cap',e,_,hcc⟩:=(HX.out.row.2.2.2.1.later bE.out).at hlt;simp only[Value.slice.injEq,true_and]at e;obtain⟨rfl,rfl⟩:=e;have bU:=HX.out.row.2.2.2.2 l[j] (List.getElem_mem hlt);have HI:=ł (λw' (h:Grow wr w')=>fT.out l[j] (List.getElem_mem hlt) w' (Mv.trans bE.out h (λ_ e=>e.elim)));have HST:=ł (show((l[j].t.kind == 57 || dm f (procs.map ak.d) l[j].t)=true->∀ i (h1:i<l.length),i<j+1->(l[i].t.kind == 57 || dm f (procs.map ak.d) l[i].t)=true)from λh i h1 hij=>by
     rcases Nat.lt_or_ge i j with h3|h3
     · exact dP.out i h1 h3
     · obtain rfl:i=j:=by omega
       exact h)
    have dS:=ł (show((l[j].t.kind == 57 || dm f (procs.map ak.d) l[j].t)=false->kN f (procs.map ak.d) (ae.ts l)=false)from λh=>by
     rw[Ar];exact List.all_eq_false.2 ⟨l[j].t,by rw[ae.ku];exact List.mem_map.2 ⟨l[j],List.getElem_mem hlt,rfl⟩,by rw[h];simp⟩)
    generalize l[j]=y at HST dS HI bU hcc;obtain⟨yk,yn,ys,mY,yl⟩:=y;obtain⟨ya,yc,rfl,-,-⟩:=bU.form;simp only[ae.val]at HI;have c0:=hcc 0 _ rfl;have c1:=hcc 1 _ rfl;have c2:=hcc 2 _ rfl;have c3:=hcc 3 _ rfl;simp only[Nat.add_zero]at c0;have hbl:b<wr.heap.size:=World.block_lt_of_cell? wr _ c0;have aK:=ł (dh.out.alloc (.cells #[.int .u8 yk,.int .i64 yn,.string ys,.slice ya yl.length yc] 26));have eB:=ł (bE.out.alloc (.cells #[.int .u8 yk,.int .i64 yn,.string ys,.slice ya yl.length yc] 26));have HK:=ł (show(ae.mk yk yn ys (.slice ya yl.length yc) yl).t.kind=yk from by simp[ae.t,Tree.kind]);rw[HK.out]at HST dS;by_cases y8:yk=57
    · subst y8;have aY:=ł (HST.out (by simp));clear hcc bU;go_wp2_with fail
      go_roundw
      case rel=>exact⟨j+1,by go_num,by omega,aY.out,aK.out⟩
      case measure=>simp[intOf];omega
    · have hkn:(yk != 57)=true:=by simpa using y8
      have hkn2:(yk == 57)=false:=by simpa using y8
      have HC:=ł (HI.out (wr.alloc (.cells #[.int .u8 yk,.int .i64 yn,.string ys,.slice ya yl.length yc] 26)) ((Mv.refl _ _).alloc _));rw[hkn2,Bool.false_or]at HST dS;generalize dm f (procs.map ak.d) (ae.mk yk yn ys (.slice ya yl.length yc) yl).t=bv at *;clear hcc bU;go_wp2_with fail;refine HC.out.mono ?_;rintro e w5 ⟨rfl,hg5⟩;have aT:=ł (Mv.trans aK.out hg5 (λ_ e=>e.elim));have dw:=ł (Mv.trans eB.out hg5 (λ_ e=>e.elim));clear hg5;cases bv with
      |true =>
       have aY:=ł (HST.out rfl);go_wp2_with fail
       go_roundw
       case rel=>exact⟨j+1,by go_num,by omega,aY.out,aT.out⟩
       case measure=>simp[intOf];omega
      |false =>
       have HR:=ł (show dm f (procs.map ak.d) (.mk k n s (ae.ts l))=false from by rw[dQ.out,dS.out rfl]);go_wp2_with fail;go_ret;exact⟨aL HR.out.symm,dw.out⟩
  obtain rfl:j=l.length:=by omega
  have HR:=ł (show dm f (procs.map ak.d) (.mk k n s (ae.ts l))=true from by
   rw[dQ.out,Ar];refine List.all_eq_true.2 λt ht => ?_;rw[ae.ku]at ht;obtain⟨x,hx,rfl⟩:=List.mem_map.1 ht;obtain⟨i,hi,rfl⟩:=List.mem_iff_getElem.1 hx;exact dP.out i hi hi)
  go_wp2_with fail;go_ret;exact⟨aL HR.out.symm,bE.out⟩
theorem XV (sv pv:Value) (f:az) (procs:List ak) (x:ae) (w:World) (hf:fV w sv f) (hp:lC w pv procs) (hx:aS w x) :
 Calls Tryz.prog 79 #[.agg #[sv,.int .i64 f.cells,.int .i64 f.stacks,pv],x.val] w (iK w (dm f (procs.map ak.d) x.t)):=XU sv pv f procs _ x (Nat.le_refl _) w hf hp hx
end Go.Proofs.YtnobahchcongnaaGreat
