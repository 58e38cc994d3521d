import Derived.Test.YtnobahchcongnaaGreatDoorQ09
set_option linter.unusedSimpArgs false
set_option linter.unusedVariables false
set_option maxRecDepth 100000
set_option maxHeartbeats 25600000
namespace Go.Proofs.YtnobahchcongnaaGreatDoor
open Go.RowKit Go.Instr
def rU (l:List cB) (s:ByteArray):Option cB:=l.find? (fun p=>p.name == s)
theorem Od (l:List aj) (s:ByteArray):rU (l.map aj.d) s=(eP l s).map aj.d:=by
 unfold rU eP
 induction l with
 | nil=>rfl
 | cons p l ih =>
  simp only [List.map_cons,List.find?_cons];have:(p.d.name == s)=(p.name == s):=rfl;rw [this];cases (p.name == s) with
  | true=>rfl
  | false=>exact ih
def um (f:az) (procs:List cB) (name:ByteArray) (kids:List Tree):Bool:=match rU procs name with
 | none=>false
 | some p=>(kids.zip p.params).all fun x=>(au f x.1.name x.2.kind).isSome
theorem aF {w:World} {X:Nat} {c0 c1 c2 c3:Value} {t:TypeId} (h:w.heap[X]? = some (.cells #[c0,c1,c2,c3] t (0,0))):(w.cell? ⟨X,0,none⟩=some c0∧w.cell? ⟨X,1,none⟩=some c1)∧w.cell? ⟨X,2,none⟩=some c2∧w.cell? ⟨X,3,none⟩=some c3:=by simp [World.cell?,h]
theorem Mc (sv pv:Value) (f:az) (procs:List aj) (k n:Int) (s:ByteArray) (kv:Value) (l:List ae) (w:World) (hf:fF w sv f) (hp:lQ w pv procs) (hx:aV w (.mk k n s kv l)) :
 Calls Tryz.prog 98 #[.agg #[sv,.int .i64 f.cells,.int .i64 f.stacks,pv],ae.val (.mk k n s kv l)] w (jN w (um f (procs.map aj.d) s (ae.ts l))):=by
 obtain ⟨fa,fc,rfl,hfc,hfl⟩:=hf.row.form;obtain ⟨ga,gc,rfl,hgc,hgl⟩:=hp.row.form;obtain ⟨a,cap,rfl,hcap,hlen⟩:=hx.form;have HF:=ł hf;have HP:=ł hp;have HX:=ł hx;clear hf hp hx;simp only [ae.val];have hg1:Grow w ((w.alloc (.cells #[.slice fa f.slots.length fc,.int .i64 f.cells,.int .i64 f.stacks,.slice ga procs.length gc] 62)).alloc (.cells #[.int .u8 k,.int .i64 n,.string s,.slice a l.length cap] 24)):=((Mv.refl _ _).alloc _).alloc _;have hU:=aT (heap_alloc_new w (.cells #[.slice fa f.slots.length fc,.int .i64 f.cells,.int .i64 f.stacks,.slice ga procs.length gc] 62)) (.cells #[.int .u8 k,.int .i64 n,.string s,.slice a l.length cap] 24);have hN:=heap_alloc_new (w.alloc (.cells #[.slice fa f.slots.length fc,.int .i64 f.cells,.int .i64 f.stacks,.slice ga procs.length gc] 62)) (.cells #[.int .u8 k,.int .i64 n,.string s,.slice a l.length cap] 24);rw [World.size_alloc] at hN;have bJ:=ł hg1;have HU:=ł hU;have HN:=ł hN;have Sm:=ł (Ii (.slice ga procs.length gc) procs s ((w.alloc (.cells #[.slice fa f.slots.length fc,.int .i64 f.cells,.int .i64 f.stacks,.slice ga procs.length gc] 62)).alloc (.cells #[.int .u8 k,.int .i64 n,.string s,.slice a l.length cap] 24)) (HP.out.later hg1));clear hg1 hU hN
 go_enter Tryz.func98,Tryz.ntmps98
 go_wp2_with fail;generalize (w.alloc (.cells #[.slice fa f.slots.length fc,.int .i64 f.cells,.int .i64 f.stacks,.slice ga procs.length gc] 62)).alloc (.cells #[.int .u8 k,.int .i64 n,.string s,.slice a l.length cap] 24)=w1 at *;refine Sm.out.mono ?_;rintro e w2 ⟨rfl,hg2⟩;have HG2:=ł (Mv.trans bJ.out hg2 (fun _ e=>e.elim));have Kw:=ai HU.out hg2;have bX:=ai HN.out hg2;have sO:=ł (Od procs s);have hpo:=He (HP.out.later HG2.out) s;generalize hfp:eP procs s=fp at *;clear hg2 Sm hfp;cases fp with
 | none =>
  have HR:=ł (show um f (procs.map aj.d) s (ae.ts l)=false from by unfold um;rw [sO.out];rfl);simp only [Option.getD_none,Option.isSome_none,fZ,aj.val];clear hpo Kw bX;go_wp2_with fail;go_ret;exact ⟨aD HR.out.symm,HG2.out.alloc _⟩
 | some p =>
 have CL:=ł (show um f (procs.map aj.d) s (ae.ts l)=((ae.ts l).zip p.params).all (fun x=>(au f x.1.name x.2.kind).isSome) from by unfold um;rw [sO.out];rfl);simp only [Option.getD_some,Option.isSome_some] at hpo ⊢;obtain ⟨xn,xp,Sl,xb⟩:=p;obtain ⟨xa,xc,rfl,Sn,hxl⟩:=hpo.form;have fK:=ł hpo.params;have sN:=hpo.body;obtain ⟨bk,bn,bs,Gc,bl⟩:=xb;simp only at sN fK CL;obtain ⟨ba,bc,rfl,-,-⟩:=sN.form;simp only [aj.val];have aG:=ł (HG2.out.alloc (.cells #[.string xn,.slice xa xp.length xc,.int .u8 bk,.int .i64 bn,.string bs,.slice ba bl.length bc] 60));have CO:=ł (aT Kw (.cells #[.string xn,.slice xa xp.length xc,.int .u8 bk,.int .i64 bn,.string bs,.slice ba bl.length bc] 60));have vW:=ł (aT bX (.cells #[.string xn,.slice xa xp.length xc,.int .u8 bk,.int .i64 bn,.string bs,.slice ba bl.length bc] 60));have CP:=ł (heap_alloc_new w2 (.cells #[.string xn,.slice xa xp.length xc,.int .u8 bk,.int .i64 bn,.string bs,.slice ba bl.length bc] 60));have Qe:=ł (fK.out.later ((Mv.refl _ _).alloc (.cells #[.string xn,.slice xa xp.length xc,.int .u8 bk,.int .i64 bn,.string bs,.slice ba bl.length bc] 60)));obtain ⟨⟨n0,n1⟩,n2,n3⟩:=aF bX;have hln:=lt_of_block bX;clear hpo sN Kw bX sO fK;go_wp2_with fail;clear n0 n1 n2 n3 hln;obtain ⟨m,hm,hm1,hm2,jq⟩:∃ m:Nat,min (l.length:Int) (xp.length:Int)=m∧m≤l.length∧m≤xp.length∧(m=l.length∨m=xp.length):=⟨min l.length xp.length,by omega,by omega,by omega,by omega⟩;rw [hm];have vX:=ł jq;clear hm jq;generalize w2.alloc (.cells #[.string xn,.slice xa xp.length xc,.int .u8 bk,.int .i64 bn,.string bs,.slice ba bl.length bc] 60)=w3 at *
 go_loopw [25] (fun t wr=>∃ j:Nat,t = .int .i64 j∧j≤m∧(∀ i (h1:i<l.length) (h2:i<xp.length),i<j→(au f l[i].t.name xp[i].kind).isSome=true)∧Grow w3 wr) (fun t _=>m - (intOf t).toNat)
 case atStart=>exact ⟨0,rfl,Nat.zero_le _,fun i _ _ h=>by omega,Mv.refl _ _⟩
 obtain ⟨j,rfl,hj,hall,hgr⟩:=hrel;have bT:=ł hall;have bV:=ł hgr;have aQ:=ł (Mv.trans aG.out hgr (fun _ e=>e.elim));clear hall hgr;by_cases hlt:j<m
 · have hjl:j<l.length:=by omega
   have hjp:j<xp.length:=by omega
   obtain ⟨kb,ko,cap',e,_,hcc⟩:=HX.out.row.2.2.2.1.at hjl;simp only [Value.slice.injEq,true_and] at e;obtain ⟨rfl,rfl⟩:=e;obtain ⟨pb,po,cap2,e,_,hcp⟩:=Qe.out.at hjp;simp only [Value.slice.injEq,true_and] at e;obtain ⟨rfl,rfl⟩:=e;have HT:=ł (show (au f l[j].t.name xp[j].kind).isSome=true→∀ i (h1:i<l.length) (h2:i<xp.length),i<j+1→(au f l[i].t.name xp[i].kind).isSome=true from fun h i h1 h2 hij=>by
    rcases Nat.lt_or_ge i j with h3 | h3
    · exact bT.out i h1 h2 h3
    · obtain rfl:i=j:=by omega
      exact h)
   have bF:=ł (show (au f l[j].t.name xp[j].kind).isSome=false→um f (procs.map aj.d) s (ae.ts l)=false from fun h=>by
    rw [CL.out];refine List.all_eq_false.2 ⟨(l[j].t,xp[j]),?_,by simp [h]⟩;have hz:j<((ae.ts l).zip xp).length:=by rw [List.length_zip,ae.cZ];omega
    have:((ae.ts l).zip xp)[j]=(l[j].t,xp[j]):=by rw [List.getElem_zip,ae.gK l j hjl]
    rw [← this];exact List.getElem_mem hz)
   have Ky:=ł (fun (x:World) (hx:Grow wr.drew x)=>(HX.out.row.2.2.2.1.later (Mv.trans (Mv.drew aQ.out) hx (fun _ e=>e.elim))).at' hjl);have Kz:=ł (fun (x:World) (hx:Grow wr.drew x)=>(Qe.out.later (Mv.trans (Mv.drew bV.out) hx (fun _ e=>e.elim))).at' hjp);have Sq:=ł (fun (x:World) (hx:Grow wr.drew x)=>ai (show (wr.drew).heap[w.heap.size]? = _ from ai CO.out (Mv.drew bV.out)) hx);have iq:=ł (fun (x:World) (hx:Grow wr.drew x)=>ai (show (wr.drew).heap[w.heap.size+1]? = _ from ai vW.out (Mv.drew bV.out)) hx);have rz:=ł (fun (x:World) (hx:Grow wr.drew x)=>ai (show (wr.drew).heap[w2.heap.size]? = _ from ai CP.out (Mv.drew bV.out)) hx);have lK:=ł (fun (x:World) (hx:Grow wr.drew x)=>HF.out.later (Mv.trans (Mv.drew aQ.out) hx (fun _ e=>e.elim)));have aX:=HX.out.row.2.2.2.2 l[j] (List.getElem_mem hjl);generalize l[j]=y at HT bF Ky aX hcc;generalize xp[j]=vd at HT bF Kz hcp;obtain ⟨yk,yn,ys,jf,yl⟩:=y;obtain ⟨vn,vk,vl⟩:=vd;simp only [ae.t,Tree.name] at HT bF;generalize hbv:(au f ys vk).isSome=bv at *;have _1:=ł hbv;clear hcc hcp aX hbv;go_wp2_with fail;refine Bb (by kernel_rfl) 44 [some 28,some 29,some 30,some 31,some 32,some 33,some 34,some 35,some 36,some 37,some 38,some 39,some 40,some 41,some 42] [[],[],[1],[],[2,3],[4],[5],[],[7],[],[8,9],[10],[11],[0,6,12],[13]] [[],[],[1],[],[2,3],[4],[5],[],[7],[],[8,9],[10],[11],[0,6,12],[13]] [[0],[1],[2],[3],[4],[5],[6],[7],[8],[9],[10],[11],[12],[13],[14]] [] rfl (by kernel_rfl) (Mv (fun _=>False)) (Mv.refl (fun _=>False)) (fun x y z h1 h2=>Mv.trans h1 h2 (fun _ e=>e.elim)) (YC [some (.agg #[.slice fa f.slots.length fc,.int .i64 f.cells,.int .i64 f.stacks,.slice ga procs.length gc]),some (.pointer (some ⟨w.heap.size+1,3,none⟩)),some (.slice (some ⟨kb,ko,none⟩) l.length cap),some (.int .i64 j),some (.pointer (some ⟨kb,ko+j * 4,none⟩)),some (.pointer (some ⟨kb,ko+j * 4+2,none⟩)),some (.string ys),some (.pointer (some ⟨w2.heap.size,1,none⟩)),some (.slice (some ⟨pb,po,none⟩) xp.length xc),some (.int .i64 j),some (.pointer (some ⟨pb,po+j * 3,none⟩)),some (.pointer (some ⟨pb,po+j * 3+1,none⟩)),some (.int .u8 vk),some (.bool bv),some (.bool (!bv))] 99 (fun _ _=>True)) ?steps ?done
   case steps =>
    refine ⟨?s0,?s1,?s2,?s3,?s4,?s5,?s6,?s7,?s8,?s9,?s10,?s11,?s12,?s13,?s14,trivial⟩
    case s0 =>
     intro vs x hx hY;obtain ⟨⟨u0,u1⟩,u2,u3⟩:=aF (Sq.out x hx);clear hY;simp only [zR];go_simp;exact ⟨(Mv.refl (fun _=>False)) x,gW (by decide) rfl rfl,by intros;assumption⟩
    case s1 | s3 | s7 | s9 =>
     intro vs x hx hY;clear hY;simp only [zR];go_simp;exact ⟨(Mv.refl (fun _=>False)) x,gW (by decide) rfl rfl,by intros;assumption⟩
    case s2 =>
     intro vs x hx hY;have h1:vs 1 = .pointer (some ⟨w.heap.size+1,3,none⟩):=dx (hY 1 (by simp) (by simp)) (by decide) rfl;obtain ⟨⟨u0,u1⟩,u2,u3⟩:=aF (iq.out x hx);clear hY;simp only [zR,h1];go_simp;exact ⟨(Mv.refl (fun _=>False)) x,gW (by decide) rfl rfl,by intros;assumption⟩
    case s4 =>
     intro vs x hx hY;have h2:vs 2 = .slice (some ⟨kb,ko,none⟩) l.length cap:=dx (hY 2 (by simp) (by simp)) (by decide) rfl;have h3:vs 3 = .int .i64 j:=dx (hY 3 (by simp) (by simp)) (by decide) rfl;clear hY;simp only [zR,h2,h3];go_simp;exact ⟨(Mv.refl (fun _=>False)) x,gW (by decide) rfl rfl,by intros;assumption⟩
    case s5 =>
     intro vs x hx hY;have h4:vs 4 = .pointer (some ⟨kb,ko+j * 4,none⟩):=dx (hY 4 (by simp) (by simp)) (by decide) rfl;clear hY;simp only [zR,h4];go_simp;exact ⟨(Mv.refl (fun _=>False)) x,gW (by decide) rfl rfl,by intros;assumption⟩
    case s6 =>
     intro vs x hx hY;have h5:vs 5 = .pointer (some ⟨kb,ko+j * 4+2,none⟩):=dx (hY 5 (by simp) (by simp)) (by decide) rfl;have u2:=Ky.out x hx 2 _ rfl;clear hY;simp only [zR,h5];go_simp;exact ⟨(Mv.refl (fun _=>False)) x,gW (by decide) rfl rfl,by intros;assumption⟩
    case s8 =>
     intro vs x hx hY;have h7:vs 7 = .pointer (some ⟨w2.heap.size,1,none⟩):=dx (hY 7 (by simp) (by simp)) (by decide) rfl;obtain ⟨⟨u0,u1,u2⟩,u3,u4,u5⟩:=wO (rz.out x hx);clear hY;simp only [zR,h7];go_simp;exact ⟨(Mv.refl (fun _=>False)) x,gW (by decide) rfl rfl,by intros;assumption⟩
    case s10 =>
     intro vs x hx hY;have h8:vs 8 = .slice (some ⟨pb,po,none⟩) xp.length xc:=dx (hY 8 (by simp) (by simp)) (by decide) rfl;have h9:vs 9 = .int .i64 j:=dx (hY 9 (by simp) (by simp)) (by decide) rfl;clear hY;simp only [zR,h8,h9];go_simp;exact ⟨(Mv.refl (fun _=>False)) x,gW (by decide) rfl rfl,by intros;assumption⟩
    case s11 =>
     intro vs x hx hY;have h10:vs 10 = .pointer (some ⟨pb,po+j * 3,none⟩):=dx (hY 10 (by simp) (by simp)) (by decide) rfl;clear hY;simp only [zR,h10];go_simp;exact ⟨(Mv.refl (fun _=>False)) x,gW (by decide) rfl rfl,by intros;assumption⟩
    case s12 =>
     intro vs x hx hY;have h11:vs 11 = .pointer (some ⟨pb,po+j * 3+1,none⟩):=dx (hY 11 (by simp) (by simp)) (by decide) rfl;have u1:=Kz.out x hx 1 _ rfl;clear hY;simp only [zR,h11];go_simp;exact ⟨(Mv.refl (fun _=>False)) x,gW (by decide) rfl rfl,by intros;assumption⟩
    case s13 =>
     intro vs x hx hY;have h0:vs 0 = .agg #[.slice fa f.slots.length fc,.int .i64 f.cells,.int .i64 f.stacks,.slice ga procs.length gc]:=dx (hY 0 (by simp) (by simp)) (by decide) rfl;have h6:vs 6 = .string ys:=dx (hY 6 (by simp) (by simp)) (by decide) rfl;have h12:vs 12 = .int .u8 vk:=dx (hY 12 (by simp) (by simp)) (by decide) rfl;have HC:=ł (uW (.slice fa f.slots.length fc) (.slice ga procs.length gc) f ys vk x (lK.out x hx) ga procs.length gc rfl);rw [_1.out] at HC;clear hY;simp only [zR,h0,h6,h12];go_simp;refine HC.out.mono ?_;rintro e y ⟨rfl,hg⟩;exact ⟨_,rfl,hg,gW (by decide) rfl rfl,by intros;exact Yo (fun _ h=>h) _ _ (by assumption)⟩
    case s14 =>
     intro vs x hx hY;have kE:vs 13 = .bool bv:=dx (hY 13 (by simp) (by simp)) (by decide) rfl;clear hY;simp only [zR,kE];go_simp;exact ⟨(Mv.refl (fun _=>False)) x,gW (by decide) rfl rfl,by intros;assumption⟩
   case done =>
   intro vs wx hx hY;simp only [List.length_cons,List.length_nil,Nat.zero_add,Nat.reduceAdd];rw [show List.range 15=[0,1,2,3,4,5,6,7,8,9,10,11,12,13,14] from rfl];have h0:vs 0 = .agg #[.slice fa f.slots.length fc,.int .i64 f.cells,.int .i64 f.stacks,.slice ga procs.length gc]:=dx (hY 0 (by decide) rfl) (by decide) rfl;have h1:vs 1 = .pointer (some ⟨w.heap.size+1,3,none⟩):=dx (hY 1 (by decide) rfl) (by decide) rfl;have h2:vs 2 = .slice (some ⟨kb,ko,none⟩) l.length cap:=dx (hY 2 (by decide) rfl) (by decide) rfl;have h3:vs 3 = .int .i64 j:=dx (hY 3 (by decide) rfl) (by decide) rfl;have h4:vs 4 = .pointer (some ⟨kb,ko+j * 4,none⟩):=dx (hY 4 (by decide) rfl) (by decide) rfl;have h5:vs 5 = .pointer (some ⟨kb,ko+j * 4+2,none⟩):=dx (hY 5 (by decide) rfl) (by decide) rfl;have h6:vs 6 = .string ys:=dx (hY 6 (by decide) rfl) (by decide) rfl;have h7:vs 7 = .pointer (some ⟨w2.heap.size,1,none⟩):=dx (hY 7 (by decide) rfl) (by decide) rfl;have h8:vs 8 = .slice (some ⟨pb,po,none⟩) xp.length xc:=dx (hY 8 (by decide) rfl) (by decide) rfl;have h9:vs 9 = .int .i64 j:=dx (hY 9 (by decide) rfl) (by decide) rfl;have h10:vs 10 = .pointer (some ⟨pb,po+j * 3,none⟩):=dx (hY 10 (by decide) rfl) (by decide) rfl;have h11:vs 11 = .pointer (some ⟨pb,po+j * 3+1,none⟩):=dx (hY 11 (by decide) rfl) (by decide) rfl;have h12:vs 12 = .int .u8 vk:=dx (hY 12 (by decide) rfl) (by decide) rfl;have kE:vs 13 = .bool bv:=dx (hY 13 (by decide) rfl) (by decide) rfl;have kF:vs 14 = .bool (!bv):=dx (hY 14 (by decide) rfl) (by decide) rfl;simp only [zR,h0,h1,h2,h3,h4,h5,h6,h7,h8,h9,h10,h11,h12,kE,kF];clear hY h0 h1 h2 h3 h4 h5 h6 h7 h8 h9 h10 h11 h12 kE kF;have _2:=ł (Mv.trans (Mv.drew aQ.out) hx (fun _ e=>e.elim));have Zq:=ł (Mv.trans (Mv.drew bV.out) hx (fun _ e=>e.elim));clear hx Ky Kz Sq iq rz lK;cases bv with
   | true =>
    have HT2:=ł (HT.out rfl);go_wp2_with fail
    go_roundw
    case rel=>exact ⟨j+1,by go_num,by omega,HT2.out,Zq.out⟩
    case measure=>simp [intOf];omega
   | false =>
    have HR:=ł (bF.out rfl);go_wp2_with fail;go_ret;exact ⟨aD HR.out.symm,_2.out⟩
 obtain rfl:j=m:=by omega
 have HR:=ł (show um f (procs.map aj.d) s (ae.ts l)=true from by
  rw [CL.out];refine List.all_eq_true.2 fun x hx => ?_;obtain ⟨i,hi,rfl⟩:=List.mem_iff_getElem.1 hx;have hi2:=hi;rw [List.length_zip,ae.cZ] at hi2;rw [List.getElem_zip];have h1:i<l.length:=by omega
  rw [ae.gK l i h1];exact bT.out i h1 (by omega) (by rcases vX.out with h | h <;> omega))
 go_wp2_with fail;go_ret;exact ⟨aD HR.out.symm,aQ.out⟩
end Go.Proofs.YtnobahchcongnaaGreatDoor
