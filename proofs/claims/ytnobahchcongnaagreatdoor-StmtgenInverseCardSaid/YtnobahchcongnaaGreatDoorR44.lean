import Derived.Test.YtnobahchcongnaaGreatDoorR43
set_option linter.unusedSimpArgs false
set_option linter.unusedVariables false
set_option maxRecDepth 100000
set_option maxHeartbeats 25600000
namespace Go.Proofs.YtnobahchcongnaaGreatDoor
open Go.RowKit Go.Instr
def Uf (w:World) (t:Tree) (e:Ending) (w':World):Prop:=∃ y:ae,e = .returned y.val/\y.t=t/\dG (λb=>w.heap.size<=b) w' y/\Grow w w'
theorem Value.ZN (a:Array Value):Value.cells (.agg a)=a:=rfl
theorem aaA {w:World} {X:Nat} {a b c d:Value} {t:TypeId} (h:w.heap[X]? = some (.cells #[a,b,c,d] t (0,0))) (p:Value) :
 (w.setCell ⟨X,0,none⟩ p).heap[X]? = some (.cells #[p,b,c,d] t (0,0))/\Mv (λb=>b=X) w (w.setCell ⟨X,0,none⟩ p) :=
 ⟨by have h1:=block_setCell (p:=⟨X,0,none⟩) h rfl p;simpa using h1,(Mv.refl (λb=>b=X) w).setCell (.inl rfl) _⟩
theorem aaU {k:Int} (h:0<=k/\k<=255):0<=lY k/\lY k<=255:=by
 unfold lY
 repeat' split
 all_goals omega
theorem Lv {w w2 wz wf:World} {g g5 L R:Nat} {K n:Int} {s:ByteArray} {ys:List ae} (hG2:Grow w w2) (hR:w.heap.size<=R/\R<w2.heap.size) (hK:0<=K/\K<=255) (hn:In64 n) (hs:s.size<=9223372036854775807) (hrow:gQ wz w2.heap.size (.slice (some ⟨g,0,none⟩) L L) ys) (hno:∀ y∈ys,dG (λb=>w2.heap.size<=b/\b≠g/\b≠g5) wz y) (hg:Grow w2 wz) (hm:Mv (λb=>b=R) wz wf):dG (λb=>w.heap.size<=b) wf (.mk K n s (.slice (some ⟨g,0,none⟩) L L) ys)/\Grow w wf:=by
 have hw2:=hG2.size;have hgB:=(hrow.lt g rfl).1;have hrow':gQ wf w2.heap.size (.slice (some ⟨g,0,none⟩) L L) ys:=bg hrow hm (λb hb e=>by have:=(hrow.lt b hb).1;omega);refine⟨.mk hK hn hs (fI tK hrow') (λb hb => ?_) (λy hy=>((hno y hy).stay hm (λb cs z hp _ e=>by omega)).weak (λb _ hb=>by omega)),(gtr hG2 hg).trans hm (λb e => .inr (by omega))⟩;obtain⟨h1,h2⟩:=tJ hrow' b hb;exact⟨by omega,h2⟩
theorem LG {xs l:List ae} {b:Bool} {p:Prop} [Decidable p] (hb:b=decide p) (hl:xs.length=l.length) (h:∀ i (h:i<xs.length) (h':i<l.length),xs[i].t=invK p l[i].t):ae.ts xs=yX b (ae.ts l):=by
 rw[yH,ae.gV,ae.gV];refine List.ext_getElem (by simp[hl]) λi h1 h2 => ?_;simp only[List.getElem_map];rw[h i (by simpa using h1) (by simpa using h2)];subst hb;simp[invK]
theorem aaB (xs:List ae) (h:0<xs.length) (d:Tree):ae.ts ((xs.set 0 (xs[xs.length - 1]'(by omega))).set (xs.length - 1) xs[0])=L8 (ae.ts xs) d:=by
 have hq:xs.length - 1<xs.length:=by omega
 rw[ae.gV,ae.gV,L8,List.map_set,List.map_set];simp[List.getD,hq,h]
theorem Lg {P:Nat->Prop} {w:World} {x:ae} (h:dG P w x):Sg x:=by
 obtain⟨k,n,s,kv,l⟩:=x;obtain⟨a,c,rfl⟩:=h.at.form';exact⟨_,_,_,_,_,_,_,rfl⟩
theorem Y2:∀ (m:Nat) (x:ae),SizeOf.sizeOf x<=m->(bq x.t=true\/bF x.t=true)->aI x.t<=100000->∀ w:World,aR w x->Calls Tryz.prog 33 #[x.val,.bool false] w (Uf w (bY x.t)):=by
 intro m
 induction m with
 |zero=>intro x hm;cases x;simp at hm
 |succ m ih =>
  intro x hm hst hsz w hx;obtain⟨k,n,s,kv,l⟩:=x;obtain⟨ka,kc,rfl,hkc,hkl⟩:=hx.form;have jR:=ł hx;have zJ:=ł (show l.length<=100000 from by
   rcases Nat.eq_zero_or_pos l.length with h|h
   · omega
   · have:=Dw (k:=k) (n:=n) (s:=s) (kv := .slice ka l.length kc) 0 h;omega)
  obtain⟨i0,hi,hz0,hz1,hz2⟩:=info_parts Tryz.Rk;obtain⟨aF,aZ,HG2⟩:=a2 w (.cells #[.int .u8 k,.int .i64 n,.string s,.slice ka l.length kc] 24) (.cells #[.int .u8 0,.int .i64 0,.string ⟨#[]⟩,.slice none 0 0] 24);have HS2:=ł (show((w.alloc (.cells #[.int .u8 k,.int .i64 n,.string s,.slice ka l.length kc] 24)).alloc (.cells #[.int .u8 0,.int .i64 0,.string ⟨#[]⟩,.slice none 0 0] 24)).heap.size=w.heap.size+2 from by simp);simp only[ae.val]
  go_enter Tryz.func33,Tryz.ntmps33
  go_upto_region 1 with fail;generalize ((w.alloc (.cells #[.int .u8 k,.int .i64 n,.string s,.slice ka l.length kc] 24)).alloc (.cells #[.int .u8 0,.int .i64 0,.string ⟨#[]⟩,.slice none 0 0] 24))=w2 at *;refine Xf 95 [some 9,some 10,some 11,some 12,some 13,some 14,some 15,some 16,some 17,some 18,some 19,some 5,none] [[],[0],[],[2],[],[4],[],[6],[7],[8],[1,3,5,9],[],[11,10]] (nR w2 l.length (λv=>#[.int .u8 k,.int .i64 n,.string s,v]) [some (.pointer (some ⟨w.heap.size,0,none⟩)),some (.int .u8 k),some (.pointer (some ⟨w.heap.size,1,none⟩)),some (.int .i64 n),some (.pointer (some ⟨w.heap.size,2,none⟩)),some (.string s),some (.pointer (some ⟨w.heap.size,3,none⟩)),some (.slice ka l.length kc),some (.int .i64 l.length)]) ?i0 ?steps ?done
  case i0=>exact⟨(Mv.refl _ _).drew,λj c h=>by rw[List.length]at h;simp[Array.getD]at h,λh=>by simp[Array.getD]at h,λh=>by simp[Array.getD]at h,λh=>by simp[Array.getD]at h⟩
  case steps =>
   refine⟨?s0,?s1,?s2,?s3,?s4,?s5,?s6,?s7,?s8,?s9,?s10,?s11,?s12,trivial⟩
   case s0|s2|s4|s6 =>
    intro L vs x hsz gB bZ hcl hI;simp only[zS];go_simp;exact hI.const rfl (by decide) rfl
   case s1 =>
    intro L vs x hsz gB bZ hcl hI;have h0:vs 0=_:=hI.val 0 _ (bZ 0 (List.contains_iff_mem.1 (by kernel_rfl))) rfl;obtain⟨⟨n0,n1⟩,n2,n3⟩:=aC (ai aF.out hI.g);simp only[zS,h0];go_simp;exact hI.const rfl (by decide) rfl
   case s3 =>
    intro L vs x hsz gB bZ hcl hI;have h2:vs 2=_:=hI.val 2 _ (bZ 2 (List.contains_iff_mem.1 (by kernel_rfl))) rfl;obtain⟨⟨n0,n1⟩,n2,n3⟩:=aC (ai aF.out hI.g);simp only[zS,h2];go_simp;exact hI.const rfl (by decide) rfl
   case s5 =>
    intro L vs x hsz gB bZ hcl hI;have h4:vs 4=_:=hI.val 4 _ (bZ 4 (List.contains_iff_mem.1 (by kernel_rfl))) rfl;obtain⟨⟨n0,n1⟩,n2,n3⟩:=aC (ai aF.out hI.g);simp only[zS,h4];go_simp;exact hI.const rfl (by decide) rfl
   case s7 =>
    intro L vs x hsz gB bZ hcl hI;have h6:vs 6=_:=hI.val 6 _ (bZ 6 (List.contains_iff_mem.1 (by kernel_rfl))) rfl;obtain⟨⟨n0,n1⟩,n2,n3⟩:=aC (ai aF.out hI.g);simp only[zS,h6];go_simp;exact hI.const rfl (by decide) rfl
   case s8 =>
    intro L vs x hsz gB bZ hcl hI;have h7:vs 7=_:=hI.val 7 _ (bZ 7 (List.contains_iff_mem.1 (by kernel_rfl))) rfl;simp only[zS,h7];go_simp;exact hI.const rfl (by decide) rfl
   case s9 =>
    intro L vs x hsz gB bZ hcl hI;have h8:vs 8=_:=hI.val 8 _ (bZ 8 (List.contains_iff_mem.1 (by kernel_rfl))) rfl;have h10:L.getD 10 false=false:=by cases h:L.getD 10 false with|false=>rfl|true=>(have:=hcl 10 h 9 (List.contains_iff_mem.1 (by kernel_rfl));rw[gB]at this;cases this)
    have h12:L.getD 12 false=false:=by cases h:L.getD 12 false with|false=>rfl|true=>(have:=hcl 12 h 9 (List.contains_iff_mem.1 (by kernel_rfl));rw[gB]at this;cases this)
    obtain⟨y,hmk,hown,hgr⟩:=run_makeSlice_full (P:=Tryz.prog) x w2.heap.size 22 24 i0 _ 4 Tryz.underlying22 hi hz0 hz1 .i64 .i64 l.length (by have:=zJ.out;omega) (by rw[hz2];have:=zJ.out;omega) (by simp only[maxLen];have:=zJ.out;omega) hI.g.size;have HG:=ł (show Grow x y from(Mv.refl _ x).grown hgr (λk e=>by cases e));have HO:=ł (show gQ y w2.heap.size (.slice (some ⟨x.heap.size,0,none⟩) l.length l.length) (List.replicate l.length Dz)from by have:=hown;rw[Value.ZN,Y1]at this;unfold gQ;rw[List.length_replicate];exact this);clear hown hgr;simp only[zS,h8];go_simp;exact hI.made rfl h12 h10 HG.out HO.out
   case s10 =>
    intro L vs x hsz gB bZ hcl hI;have h1:vs 1=_:=hI.val 1 _ (bZ 1 (List.contains_iff_mem.1 (by kernel_rfl))) rfl;have h3:vs 3=_:=hI.val 3 _ (bZ 3 (List.contains_iff_mem.1 (by kernel_rfl))) rfl;have h5:vs 5=_:=hI.val 5 _ (bZ 5 (List.contains_iff_mem.1 (by kernel_rfl))) rfl;obtain⟨g,h9,-,-⟩:=hI.row (bZ 9 (List.contains_iff_mem.1 (by kernel_rfl)));have HI:=ł hI;have OZ:=h9;simp only[zS,h1,h3,h5,h9];go_simp;exact HI.out.built rfl (by rw[OZ])
   case s11 =>
    intro L vs x hsz gB bZ hcl hI;have h12:L.getD 12 false=false:=by cases h:L.getD 12 false with|false=>rfl|true=>(have:=hcl 12 h 11 (List.contains_iff_mem.1 (by kernel_rfl));rw[gB]at this;cases this)
    simp only[zS];go_simp;exact hI.boxed (by rw[hsz];decide) rfl h12
   case s12 =>
    intro L vs x hsz gB bZ hcl hI;have Wq:=bZ 9 (List.contains_iff_mem.1 (by kernel_rfl));have Ug:=bZ 11 (List.contains_iff_mem.1 (by kernel_rfl));have h10:=hI.agg (bZ 10 (List.contains_iff_mem.1 (by kernel_rfl)));obtain⟨g,h11,hgw,hb⟩:=hI.box Ug;obtain⟨g9,h9,-,-⟩:=hI.row Wq;rw[gB]at hb;have OZ:=h9;rw[h9]at h10;simp only[Bool.false_eq_true,if_false,reduceIte]at hb;obtain⟨c0,c1,c2,c3⟩:=dN hb;have zt:=aG hb;have HF:=ł (λy hb' hm=>hI.filled (y:=y) (by rw[hsz];decide) rfl Wq Ug h11 hgw hb' hm (v:=undef));have HB:=ł hb;clear hb;simp only[zS,h10,h11];go_simp;exact HF.out _ (by rw[OZ];exact(mh HB.out _ _ _ _).1) (mh HB.out _ _ _ _).2
  case done =>
  intro L vs w3 hall hI;have h0:vs 0=_:=hI.val 0 _ (hall 0 (by simp)) rfl;have h1:vs 1=_:=hI.val 1 _ (hall 1 (by simp)) rfl;have h2:vs 2=_:=hI.val 2 _ (hall 2 (by simp)) rfl;have h3:vs 3=_:=hI.val 3 _ (hall 3 (by simp)) rfl;have h4:vs 4=_:=hI.val 4 _ (hall 4 (by simp)) rfl;have h5:vs 5=_:=hI.val 5 _ (hall 5 (by simp)) rfl;have h6:vs 6=_:=hI.val 6 _ (hall 6 (by simp)) rfl;have h7:vs 7=_:=hI.val 7 _ (hall 7 (by simp)) rfl;have h8:vs 8=_:=hI.val 8 _ (hall 8 (by simp)) rfl;obtain⟨g,h9,hrow,hne⟩:=hI.row (hall 9 (by simp));have h10:=hI.agg (hall 10 (by simp));obtain⟨g5,h11,hg5,hb5⟩:=hI.box (hall 11 (by simp));have hgg:g5≠g:=λe=>hne (hall 11 (by simp)) (by rw[h11,e]);rw[hall 12 (by simp),if_pos rfl,h9]at hb5;rw[h9]at h10;simp only[zS,Nat.reduceAdd,h0,h1,h2,h3,h4,h5,h6,h7,h8,h9,h10,h11];have gK:=ł hrow;have Ws:=ł hb5;have aH:=ł hI.g;clear h0 h1 h2 h3 h4 h5 h6 h7 h8 h9 h10 h11 hrow hb5 hne hI hall;clear hi hz0 hz1 hz2;obtain⟨⟨n0,n1⟩,n2,n3⟩:=aC (ai aF.out aH.out);have hln:=lt_of_block (ai aF.out aH.out);go_wp2_with fail;clear n0 n1 n2 n3 hln;have wh:=ł hgg;have ach:=ł hg5;clear hgg hg5
  go_loopw [23] (λt wr=>∃ (j:Nat) (xs:List ae),t = .int .i64 j/\j<=l.length/\xs.length=l.length/\gQ wr w2.heap.size (.slice (some ⟨g,0,none⟩) l.length l.length) xs/\(∀ i (h:i<xs.length) (h':i<l.length),i<j->xs[i].t=invK (k=57) l[i].t)/\(∀ i (h:i<xs.length),i<j->dG (λb=>w2.heap.size<=b/\b≠g/\b≠g5) wr xs[i])/\wr.heap[g5]? = some (.cells #[.int .u8 k,.int .i64 n,.string s,.slice (some ⟨g,0,none⟩) l.length l.length] 24 (0,0))/\Grow w2 wr) (λt _=>l.length - (intOf t).toNat)
  case atStart=>exact⟨0,List.replicate l.length Dz,rfl,Nat.zero_le _,by simp,gK.out,λi _ _ h=>by omega,λi _ h=>by omega,Ws.out,aH.out⟩
  obtain⟨j,xs,rfl,hj,hxl,hrow,hts,hno,hb5,hgr⟩:=hrel;have HRW:=ł hrow;have uR:=ł hts;have kJ:=ł hno;have xI:=ł hb5;have bS:=ł hgr;clear hrow hts hno hb5 hgr Ws gK aH;by_cases hlt:j<l.length
  · obtain⟨kb,ko,y9,bU,-,-⟩:=jR.out.row.2.2.2.1.at (show 0<l.length by omega);simp only[Value.slice.injEq,true_and]at bU;obtain⟨rfl,rfl⟩:=bU;have fT:=(fe jR.out j hlt).later (gtr HG2.out bS.out);have HAT:=ł (jR.out.row.2.2.2.2 _ (List.getElem_mem hlt));have hso:=ng (k:=k) (n:=n) (s:=s) (kv := .slice (some ⟨kb,ko,none⟩) l.length kc) (List.getElem_mem hlt);have hsk:=Dw (k:=k) (n:=n) (s:=s) (kv := .slice (some ⟨kb,ko,none⟩) l.length kc) j hlt;have A9:j<xs.length:=by omega
    have xO:=ł (λ(hc:k=57\/l[j].t.kind=57) (z:World) (hz:Grow w z)=>ih l[j] (by omega) (by
     rw[ae.t]at hst;have:=aax hst j (by rw[ae.cz];exact hlt) (by rw[ae.gW l j hlt];exact hc);rwa[ae.gW l j hlt]at this) (by omega) z (HAT.out.later hz))
    have O0:=ł (λ(z:World) (hz:Grow w z)=>KO l[j] z (by omega) (HAT.out.later hz));have FO:=ł (show invK (k=57) l[j].t=if k=57\/l[j].t.kind=57 then bY l[j].t else l[j].t from rfl);generalize Wu:invK (k=57) l[j].t=KT at *;have Fq:=ł Wu.symm;clear Wu hso hsk;generalize lV:l[j]=y at *;obtain⟨yk,yn,ys,yv,yl⟩:=y;obtain⟨ya,yc,rfl,-,-⟩:=fT.at_.form;have hkk:(ae.t (.mk yk yn ys (.slice ya yl.length yc) yl)).kind=yk:=by rw[ae.t];rfl
    rw[hkk]at xO FO;obtain⟨⟨d0,d1⟩,d2,d3⟩:=fT.four;have hbl:=World.block_lt_of_cell? wr _ d0;have wB:=ł (heap_alloc_new wr (.cells #[.int .u8 yk,.int .i64 yn,.string ys,.slice ya yl.length yc] 24));have dR:=ł (show Grow wr (wr.alloc (.cells #[.int .u8 yk,.int .i64 yn,.string ys,.slice ya yl.length yc] 24))from(Mv.refl _ _).alloc _);have ry:=ł (Nat.le_trans bS.out.size dR.out.size);have JY:=ł (Nat.lt_of_lt_of_le (HRW.out.lt g rfl).2 dR.out.size);have Uh:=ł (HRW.out.lt g rfl).1;have CE:=ł (Nat.lt_of_lt_of_le (lt_of_block xI.out) dR.out.size);have Jd:=ł (ai xI.out dR.out);have Ui:=ł (bg HRW.out dR.out (λ_ _ e=>e));have Wv:=ł lV;clear fT hkk lV;obtain⟨⟨n0,n1⟩,n2,n3⟩:=aC (ai aF.out bS.out);have hln:=lt_of_block (ai aF.out bS.out);have hcs:((k == 57)=true\/((k == 57)=false/\(yk == 57)=true))\/((k == 57)=false/\(yk == 57)=false):=by cases(k == 57) <;> cases(yk == 57) <;> simp
    rcases hcs with hcs|⟨q1,q2⟩
    · skip
      have q0:k=57\/yk=57:=by rcases hcs with h|h;exact .inl (by simpa using h);exact .inr (by simpa using h.2)
      have hk':KT=_:=FO.out.trans (if_pos q0);have ik:=ł (λ(z:World) (hz:Grow (wr.alloc (.cells #[.int .u8 yk,.int .i64 yn,.string ys,.slice ya yl.length yc] 24)) z)=>(xO.out q0 z (gtr HG2.out (gtr bS.out (gtr dR.out hz)))).mono (R':=λe w'=>∃ y2:ae,e = .returned y2.val/\y2.t=KT/\dG (λb=>z.heap.size<=b) w' y2/\Grow z w') (λe w' h=>by
       obtain⟨y2,he,ht,ho,hg⟩:=h;exact⟨y2,he,ht.trans hk'.symm,ho,hg⟩))
      clear hk' xO O0 FO ih q0;simp only[ae.val]at ik;rcases hcs with q1|⟨q1,q2⟩
      all_goals
       go_upto_region 6 with fail;clear d0 d1 d2 d3 hbl n0 n1 n2 n3 hln;generalize wr.alloc (.cells #[.int .u8 yk,.int .i64 yn,.string ys,.slice ya yl.length yc] 24)=wb at *;have HK:=ł (λ(y:World) (hy:Grow wb y)=>And.intro (ai Jd.out hy) (And.intro (ai wB.out hy) (bg Ui.out hy (λ_ _ e=>e))));refine F7 (by kernel_rfl) 95 [some 36,some 37,some 38,some 39,some 40,some 41,some 42,none] [[],[0],[],[],[],[3,4],[1,2,0,1,2,3,4,5],[6,5,5,0,1,2,3,4,5]] [[],[0],[],[],[],[3,4],[1,2],[6,5]] [0,1,2,3,4,5,6] 7 [false,false,false,false,false,true,false,false] [Pc (.pointer (some ⟨g5,3,none⟩)),Pc (.slice (some ⟨g,0,none⟩) l.length l.length),Pc (.int .i64 j),Pc (.agg #[.int .u8 yk,.int .i64 yn,.string ys,.slice ya yl.length yc]),Pc (.bool false),(λv y=>∃ z:ae,v=z.val/\z.t=KT/\dG (λb=>wb.heap.size<=b) y z),Pc (.pointer (some ⟨g,j * 4,none⟩)),dB] (λb=>b=g) (λ_ y=>∃ z:ae,z.t=KT/\dG (λb=>wb.heap.size<=b) y z/\gQ y w2.heap.size (.slice (some ⟨g,0,none⟩) l.length l.length) (xs.set j z)) (by kernel_rfl) rfl (by kernel_rfl) ⟨⟨eT _,λ_=>fu _⟩,⟨eT _,λ_=>fu _⟩,⟨eT _,λ_=>fu _⟩,⟨eT _,λ_=>fu _⟩,⟨eT _,λ_=>fu _⟩,⟨(λv x y hg h=>by obtain⟨z,hv,ht,ho⟩:=h;exact⟨z,hv,ht,ho.stay hg (λ_ _ _ _ _ e=>e)⟩),by simp⟩,⟨eT _,λ_=>fu _⟩,⟨vF,λ_=>DV⟩,trivial⟩ (λv x y hg h=>by obtain⟨z,ht,ho,hr⟩:=h;exact⟨z,ht,ho.stay hg (λ_ _ _ _ _ e=>e),bg hr hg (λ_ _ e=>e)⟩) (by kernel_rfl) (by simp) ?steps ?done
       case steps =>
        refine⟨?s0,?s1,?s2,?s3,?s4,?s5,?s6,?s7,trivial⟩
        case s0|s2|s4 =>
         refine eG (by decide) (λvs x hx hP hL => ?_);clear hx hP hL;simp only[zR];go_simp;exact aX (Mv.refl _ _) rfl
        case s1 =>
         refine eG (by decide) (λvs x hx hP hL => ?_);have h0:vs 0=_:=hP 0 (by simp) (by simp) (by simp);have hG:Grow wb x:=gG (gH (hx (by simp)));have HX:=ł (HK.out x hG);obtain⟨⟨n0,n1⟩,n2,n3⟩:=aC HX.out.1;clear hx hP hL;simp only[zR,h0];go_simp;exact aX (Mv.refl _ _) rfl
        case s3 =>
         refine eG (by decide) (λvs x hx hP hL => ?_);have hG:Grow wb x:=gG (gH (hx (by simp)));have HX:=ł (HK.out x hG);obtain⟨⟨d0,d1⟩,d2,d3⟩:=aC HX.out.2.1;clear hx hP hL;simp only[zR];go_simp;exact aX (Mv.refl _ _) rfl
        case s5 =>
         refine eG (by decide) (λvs x hx hP hL => ?_);have h3:vs 3=_:=hP 3 (by simp) (by simp) (by simp);have h4:vs 4=_:=hP 4 (by simp) (by simp) (by simp);have hG:Grow wb x:=gG (gH (hx (by simp)));have HX:=ł (HK.out x hG);have HC:=ł (ik.out x hG);clear hx hP hL;simp only[zR,h3,h4];go_simp;refine(HC.out).mono ?_;rintro e y ⟨z,rfl,ht,ho,hg⟩;exact⟨_,rfl,aW hg ⟨z,rfl,ht,ho.weak (λb _ h=>Nat.le_trans hG.size h)⟩⟩
        case s6 =>
         refine eG (by decide) (λvs x hx hP hL => ?_);have h1:vs 1=_:=hP 1 (by simp) (by simp) (by simp);have h2:vs 2=_:=hP 2 (by simp) (by simp) (by simp);have hG:Grow wb x:=gG (gH (hx (by simp)));have HX:=ł (HK.out x hG);have hjl:j<l.length:=hlt;clear hx hP hL;simp only[zR,h1,h2];go_simp;exact aX (Mv.refl _ _) rfl
        case s7 =>
         refine Hu rfl (λvs x hx hP => ?_);have h6:vs 6=_:=hP 6 (by simp);have p5:=hP 5 (by simp);obtain⟨z5,h5,t5,o5⟩:=p5;have hG:Grow wb x:=gG (gH hx);have HX:=ł (HK.out x hG);obtain⟨zk,zn,zs,zv,zl⟩:=z5;obtain⟨za,zc,rfl⟩:=o5.at.form';simp only[ae.val]at h5;obtain⟨FP,hM1⟩:=gQ.set HX.out.2.2 j A9 zk zn zs (.slice za zl.length zc) zl;have HR1:=ł FP;have nK:=ł hM1;have zt:=BX HX.out.2.2;obtain⟨⟨v0,e0⟩,⟨v1,e1⟩,⟨v2,e2⟩,⟨v3,e3⟩,hgl⟩:=BQ HX.out.2.2 A9;have HO:=ł (show dG (λb=>wb.heap.size<=b) _ _ from o5.stay nK.out (λb cs z hp hc e=>by have:=JY.out;omega));have HT:=ł t5;clear FP hM1 o5 t5;clear hx hP;simp only[zR,h6,h5];go_simp;exact⟨nK.out.mono (λ_ e => .inl (.inr e)),_,HT.out,HO.out,HR1.out⟩
       case done =>
       intro vs wx hE;have h0:vs 0=_:=hE.val 0 (by simp) (by simp) (by simp);have h1:vs 1=_:=hE.val 1 (by simp) (by simp) (by simp);have h2:vs 2=_:=hE.val 2 (by simp) (by simp) (by simp);have h3:vs 3=_:=hE.val 3 (by simp) (by simp) (by simp);have h4:vs 4=_:=hE.val 4 (by simp) (by simp) (by simp);have h6:vs 6=_:=hE.val 6 (by simp) (by simp) (by simp);have hEl:=hE.last;have FQ:=hE.mv;simp only[List.length_cons,List.length_nil,Nat.zero_add,Nat.reduceAdd];rw[show List.range 8=[0,1,2,3,4,5,6,7]from rfl];simp only[zR,h0,h1,h2,h3,h4,h6];clear h0 h1 h2 h3 h4 h6;have O3:=ł hEl;have BJ:=ł (show Mv (λb=>wb.heap.size<=b\/b=g) wb wx from Mv.trans (Mv.refl _ wb).drew FQ (λ_ e => .inl e));clear hE hEl FQ HK ik;obtain⟨z,zN,FR,AR⟩:=O3.out;have O4:=ł AR;have Nf:=ł (show wx.heap[g5]? = some (.cells #[.int .u8 k,.int .i64 n,.string s,.slice (some ⟨g,0,none⟩) l.length l.length] 24 (0,0))from by
        rw[BJ.out.block g5 CE.out (λe=>by have:=wh.out;have:=CE.out;omega)];exact Jd.out)
       have kL:=ł (show Grow w2 wx from(gtr bS.out dR.out).trans BJ.out (λb e => .inr (by have:=ry.out;have:=Uh.out;omega)));have BK:=ł (show ∀ i (h:i<(xs.set j z).length) (h':i<l.length),i<j+1->(xs.set j z)[i].t=invK (k=57) l[i].t from λi h h' hi=>by
        by_cases e:j=i
        · subst e;rw[List.getElem_set_self,zN,Wv.out];exact Fq.out
        · rw[List.getElem_set_ne e];exact uR.out i (by simpa using h) h' (by omega))
       have O5:=ł (show ∀ i (h:i<(xs.set j z).length),i<j+1->dG (λb=>w2.heap.size<=b/\b≠g/\b≠g5) wx (xs.set j z)[i]from λi h hi=>by
        by_cases e:j=i
        · subst e;rw[List.getElem_set_self];exact FR.weak (λb _ hb=>⟨by have:=ry.out;omega,by have:=JY.out;omega,by have:=CE.out;omega⟩)
        · rw[List.getElem_set_ne e];exact((kJ.out i (by simpa using h) (by omega)).stay dR.out (λ_ _ _ _ _ e=>e)).stay BJ.out (λb cs z' hp hc e=>by
           rcases e with e|e
           · have:=lt_of_block hc;omega
           · exact hp.2.1 e))
       have Ng:(xs.set j z).length=l.length:=by simp[hxl]
       clear zN FR AR;go_wp2_with fail
       go_roundw
       case rel=>exact⟨j+1,xs.set j z,by go_num,by omega,Ng,O4.out,BK.out,O5.out,Nf.out,kL.out⟩
       case measure=>(simp[intOf] <;> omega)
    · have hc:k≠57:=by simpa using q1
      have hc2:yk≠57:=by simpa using q2
      have hk':KT=_:=FO.out.trans (if_neg (λh=>h.elim hc hc2));have ik:=ł (λ(z:World) (hz:Grow (wr.alloc (.cells #[.int .u8 yk,.int .i64 yn,.string ys,.slice ya yl.length yc] 24)) z)=>(O0.out z (gtr HG2.out (gtr bS.out (gtr dR.out hz)))).mono (R':=λe w'=>∃ y2:ae,e = .returned y2.val/\y2.t=KT/\dG (λb=>z.heap.size<=b) w' y2/\Grow z w') (λe w' h=>by
       obtain⟨y2,he,ht,ho,hg⟩:=h;exact⟨y2,he,ht.trans hk'.symm,ho,hg⟩))
      clear hk' xO O0 FO ih;simp only[ae.val]at ik;go_upto_region 7 with fail;clear d0 d1 d2 d3 hbl n0 n1 n2 n3 hln;generalize wr.alloc (.cells #[.int .u8 yk,.int .i64 yn,.string ys,.slice ya yl.length yc] 24)=wb at *;have HK:=ł (λ(y:World) (hy:Grow wb y)=>And.intro (ai Jd.out hy) (And.intro (ai wB.out hy) (bg Ui.out hy (λ_ _ e=>e))));refine F7 (by kernel_rfl) 95 [some 43,some 44,some 45,some 46,some 47,some 48,none] [[],[0],[],[],[3],[1,2,0,1,2,3,4],[5,4,4,0,1,2,3,4]] [[],[0],[],[],[3],[1,2],[5,4]] [0,1,2,3,4,5] 6 [false,false,false,false,true,false,false] [Pc (.pointer (some ⟨g5,3,none⟩)),Pc (.slice (some ⟨g,0,none⟩) l.length l.length),Pc (.int .i64 j),Pc (.agg #[.int .u8 yk,.int .i64 yn,.string ys,.slice ya yl.length yc]),(λv y=>∃ z:ae,v=z.val/\z.t=KT/\dG (λb=>wb.heap.size<=b) y z),Pc (.pointer (some ⟨g,j * 4,none⟩)),dB] (λb=>b=g) (λ_ y=>∃ z:ae,z.t=KT/\dG (λb=>wb.heap.size<=b) y z/\gQ y w2.heap.size (.slice (some ⟨g,0,none⟩) l.length l.length) (xs.set j z)) (by kernel_rfl) rfl (by kernel_rfl) ⟨⟨eT _,λ_=>fu _⟩,⟨eT _,λ_=>fu _⟩,⟨eT _,λ_=>fu _⟩,⟨eT _,λ_=>fu _⟩,⟨(λv x y hg h=>by obtain⟨z,hv,ht,ho⟩:=h;exact⟨z,hv,ht,ho.stay hg (λ_ _ _ _ _ e=>e)⟩),by simp⟩,⟨eT _,λ_=>fu _⟩,⟨vF,λ_=>DV⟩,trivial⟩ (λv x y hg h=>by obtain⟨z,ht,ho,hr⟩:=h;exact⟨z,ht,ho.stay hg (λ_ _ _ _ _ e=>e),bg hr hg (λ_ _ e=>e)⟩) (by kernel_rfl) (by simp) ?steps ?done
      case steps =>
       refine⟨?s0,?s1,?s2,?s3,?s4,?s5,?s6,trivial⟩
       case s0|s2 =>
        refine eG (by decide) (λvs x hx hP hL => ?_);clear hx hP hL;simp only[zR];go_simp;exact aX (Mv.refl _ _) rfl
       case s1 =>
        refine eG (by decide) (λvs x hx hP hL => ?_);have h0:vs 0=_:=hP 0 (by simp) (by simp) (by simp);have hG:Grow wb x:=gG (gH (hx (by simp)));have HX:=ł (HK.out x hG);obtain⟨⟨n0,n1⟩,n2,n3⟩:=aC HX.out.1;clear hx hP hL;simp only[zR,h0];go_simp;exact aX (Mv.refl _ _) rfl
       case s3 =>
        refine eG (by decide) (λvs x hx hP hL => ?_);have hG:Grow wb x:=gG (gH (hx (by simp)));have HX:=ł (HK.out x hG);obtain⟨⟨d0,d1⟩,d2,d3⟩:=aC HX.out.2.1;clear hx hP hL;simp only[zR];go_simp;exact aX (Mv.refl _ _) rfl
       case s4 =>
        refine eG (by decide) (λvs x hx hP hL => ?_);have h3:vs 3=_:=hP 3 (by simp) (by simp) (by simp);have hG:Grow wb x:=gG (gH (hx (by simp)));have HX:=ł (HK.out x hG);have HC:=ł (ik.out x hG);clear hx hP hL;simp only[zR,h3];go_simp;refine(HC.out).mono ?_;rintro e y ⟨z,rfl,ht,ho,hg⟩;exact⟨_,rfl,aW hg ⟨z,rfl,ht,ho.weak (λb _ h=>Nat.le_trans hG.size h)⟩⟩
       case s5 =>
        refine eG (by decide) (λvs x hx hP hL => ?_);have h1:vs 1=_:=hP 1 (by simp) (by simp) (by simp);have h2:vs 2=_:=hP 2 (by simp) (by simp) (by simp);have hG:Grow wb x:=gG (gH (hx (by simp)));have HX:=ł (HK.out x hG);have hjl:j<l.length:=hlt;clear hx hP hL;simp only[zR,h1,h2];go_simp;exact aX (Mv.refl _ _) rfl
       case s6 =>
        refine Hu rfl (λvs x hx hP => ?_);have h5:vs 5=_:=hP 5 (by simp);have p4:=hP 4 (by simp);obtain⟨z4,h4,t4,o4⟩:=p4;have hG:Grow wb x:=gG (gH hx);have HX:=ł (HK.out x hG);obtain⟨zk,zn,zs,zv,zl⟩:=z4;obtain⟨za,zc,rfl⟩:=o4.at.form';simp only[ae.val]at h4;obtain⟨FP,hM1⟩:=gQ.set HX.out.2.2 j A9 zk zn zs (.slice za zl.length zc) zl;have HR1:=ł FP;have nK:=ł hM1;have zt:=BX HX.out.2.2;obtain⟨⟨v0,e0⟩,⟨v1,e1⟩,⟨v2,e2⟩,⟨v3,e3⟩,hgl⟩:=BQ HX.out.2.2 A9;have HO:=ł (show dG (λb=>wb.heap.size<=b) _ _ from o4.stay nK.out (λb cs z hp hc e=>by have:=JY.out;omega));have HT:=ł t4;clear FP hM1 o4 t4;clear hx hP;simp only[zR,h5,h4];go_simp;exact⟨nK.out.mono (λ_ e => .inl (.inr e)),_,HT.out,HO.out,HR1.out⟩
      case done =>
      intro vs wx hE;have h0:vs 0=_:=hE.val 0 (by simp) (by simp) (by simp);have h1:vs 1=_:=hE.val 1 (by simp) (by simp) (by simp);have h2:vs 2=_:=hE.val 2 (by simp) (by simp) (by simp);have h3:vs 3=_:=hE.val 3 (by simp) (by simp) (by simp);have h5:vs 5=_:=hE.val 5 (by simp) (by simp) (by simp);have hEl:=hE.last;have FQ:=hE.mv;simp only[List.length_cons,List.length_nil,Nat.zero_add,Nat.reduceAdd];rw[show List.range 7=[0,1,2,3,4,5,6]from rfl];simp only[zR,h0,h1,h2,h3,h5];clear h0 h1 h2 h3 h5;have O3:=ł hEl;have BJ:=ł (show Mv (λb=>wb.heap.size<=b\/b=g) wb wx from Mv.trans (Mv.refl _ wb).drew FQ (λ_ e => .inl e));clear hE hEl FQ HK ik;obtain⟨z,zN,FR,AR⟩:=O3.out;have O4:=ł AR;have Nf:=ł (show wx.heap[g5]? = some (.cells #[.int .u8 k,.int .i64 n,.string s,.slice (some ⟨g,0,none⟩) l.length l.length] 24 (0,0))from by
       rw[BJ.out.block g5 CE.out (λe=>by have:=wh.out;have:=CE.out;omega)];exact Jd.out)
      have kL:=ł (show Grow w2 wx from(gtr bS.out dR.out).trans BJ.out (λb e => .inr (by have:=ry.out;have:=Uh.out;omega)));have BK:=ł (show ∀ i (h:i<(xs.set j z).length) (h':i<l.length),i<j+1->(xs.set j z)[i].t=invK (k=57) l[i].t from λi h h' hi=>by
       by_cases e:j=i
       · subst e;rw[List.getElem_set_self,zN,Wv.out];exact Fq.out
       · rw[List.getElem_set_ne e];exact uR.out i (by simpa using h) h' (by omega))
      have O5:=ł (show ∀ i (h:i<(xs.set j z).length),i<j+1->dG (λb=>w2.heap.size<=b/\b≠g/\b≠g5) wx (xs.set j z)[i]from λi h hi=>by
       by_cases e:j=i
       · subst e;rw[List.getElem_set_self];exact FR.weak (λb _ hb=>⟨by have:=ry.out;omega,by have:=JY.out;omega,by have:=CE.out;omega⟩)
       · rw[List.getElem_set_ne e];exact((kJ.out i (by simpa using h) (by omega)).stay dR.out (λ_ _ _ _ _ e=>e)).stay BJ.out (λb cs z' hp hc e=>by
          rcases e with e|e
          · have:=lt_of_block hc;omega
          · exact hp.2.1 e))
      have Ng:(xs.set j z).length=l.length:=by simp[hxl]
      clear zN FR AR;go_wp2_with fail
      go_roundw
      case rel=>exact⟨j+1,xs.set j z,by go_num,by omega,Ng,O4.out,BK.out,O5.out,Nf.out,kL.out⟩
      case measure=>(simp[intOf] <;> omega)
  · obtain rfl:j=l.length:=by omega
    have C9:=ł (show ∀ y∈xs,dG (λb=>w2.heap.size<=b/\b≠g/\b≠g5) wr y from λy hy=>by
     obtain⟨i,hi,rfl⟩:=List.mem_iff_getElem.1 hy;exact kJ.out i hi (by omega))
    have BK:=ł (show ∀ i (h:i<xs.length) (h':i<l.length),xs[i].t=invK (k=57) l[i].t from λi h h'=>uR.out i h h' h');have HK:=ł jR.out.row.1;have HN:=ł jR.out.row.2.1;have HS:=ł jR.out.row.2.2.1;have HL:=ł hst;have O6:=ł (lt_of_block aZ.out);obtain⟨⟨n0,n1⟩,n2,n3⟩:=aC (ai aF.out bS.out);have hln:=lt_of_block (ai aF.out bS.out);obtain⟨⟨b0,b1⟩,b2,b3⟩:=aC xI.out;have hl5:=lt_of_block xI.out;have z5:=aG xI.out;clear uR kJ ih hlt hj hst hsz hm;rcases(show k=57\/(k=52\/k=53\/k=54)\/(k≠57/\k≠52/\k≠53/\k≠54) by omega)with rfl|hk|⟨hk1,hk2,hk3,hk4⟩
    · have Da:=ł (show ae.t (.mk (lY 57) n s (.slice (some ⟨g,0,none⟩) l.length l.length) xs.reverse)=bY (ae.t (.mk 57 n s (.slice ka l.length kc) l))from by
       rw[ae.t,ae.t,bY,if_pos rfl,← LG (b:=true) (by simp) hxl BK.out,ae.gV,ae.gV,List.map_reverse])
      have Nh:=ł (X9 w2.heap.size g l.length xs wr (by rw[hxl];exact HRW.out) (by have:=zJ.out;omega) (λx hx=>Lg (C9.out x hx)));rw[hxl]at Nh;go_wp2_with fail;refine Nh.out.mono ?_;rintro e w5 ⟨rfl,hrow,hmv⟩;have FT:=ł hrow;have zo:=ł (show w5.heap[g5]? = some (.cells #[.int .u8 57,.int .i64 n,.string s,.slice (some ⟨g,0,none⟩) l.length l.length] 24 (0,0))from by rw[hmv.block g5 hl5 wh.out];exact xI.out);have vX:=ł (show Grow w2 w5 from bS.out.trans hmv (λb e => .inr (by have:=(HRW.out.lt g rfl).1;omega)));have FU:=ł (show ∀ y∈xs.reverse,dG (λb=>w2.heap.size<=b/\b≠g/\b≠g5) w5 y from λy hy=>(C9.out y (by simpa using hy)).stay hmv (λb cs z hp _ e=>hp.2.1 e));have FV:=ł (show(0:Int)<=57/\(57:Int)<=255 by omega);clear hrow hmv Nh n0 n1 n2 n3 hln b0 b1 b2 b3 hl5 z5;rw[show lY 57=57 from rfl]at Da;obtain⟨⟨b0,b1⟩,b2,b3⟩:=aC zo.out;have hl5:=lt_of_block zo.out;have hrb:=ai aZ.out vX.out;have hlr:=lt_of_block hrb;obtain⟨⟨r0,r1⟩,r2,r3⟩:=aC hrb;have zr:=aG hrb;obtain⟨ht1,ht2⟩:=mh hrb (.int .u8 57) (.int .i64 n) (.string s) (.slice (some ⟨g,0,none⟩) l.length l.length);have iE:=ł ht1;have zQ:=ł (Lv HG2.out ⟨Nat.le_succ _,O6.out⟩ FV.out HN.out HS.out FT.out FU.out vX.out ht2);clear ht1 ht2 hrb;go_wp2_with fail;obtain⟨⟨t0,t1⟩,t2,t3⟩:=aC iE.out;exact bodyPost_ret (v:=ae.val (.mk 57 n s (.slice (some ⟨g,0,none⟩) l.length l.length) xs.reverse)) (by simp[results,Tryz.results33,go_sem,t0,t1,t2,t3,ae.val]) rfl ⟨_,rfl,Da.out,zQ.out.1,zQ.out.2⟩
    · have hpos:0<l.length:=by
       have h:=HL.out;rw[ae.t]at h;have:=_0 h (by omega);rwa[ae.cz]at this
      obtain⟨q,ll,hqe⟩:∃ q,q<l.length/\q+1=l.length:=⟨l.length - 1,by omega,by omega⟩;have HQE:=ł hqe;have i1:IntKind.i64.wrap ((l.length:Int) - 1)=(q:Int):=by rw[IntWalk.i64_in _ (by have:=zJ.out;omega)];omega
      clear hqe;have C8:q<xs.length:=by omega
      have Db:0<xs.length:=by omega
      obtain⟨k1,n1,s1,a1,m1,c1,l1,hx0⟩:=Lg (C9.out xs[0] (List.getElem_mem Db));obtain⟨k2,n2,s2,a2,m2,c2,l2,JJ⟩:=Lg (C9.out xs[q] (List.getElem_mem C8));have HX0:=ł hx0;have Ww:=ł JJ;have Da:=ł (show ae.t (.mk k n s (.slice (some ⟨g,0,none⟩) l.length l.length) ((xs.set 0 (.mk k2 n2 s2 (.slice a2 m2 c2) l2)).set q (.mk k1 n1 s1 (.slice a1 m1 c1) l1)))=bY (ae.t (.mk k n s (.slice ka l.length kc) l))from by
       have e:xs.length - 1=q:=by have:=HQE.out;omega
       have h2:=aaB xs Db dx;simp only[e,HX0.out,Ww.out]at h2;have hex:lY k=k:=by rcases hk with rfl|rfl|rfl <;> rfl
       rw[ae.t,ae.t,bY,if_neg (by omega),if_pos (by omega),← LG (b:=false) (by simp;omega) hxl BK.out,← h2,hex])
      have HYX:=ł (show ∀ y∈(xs.set 0 (.mk k2 n2 s2 (.slice a2 m2 c2) l2)).set q (.mk k1 n1 s1 (.slice a1 m1 c1) l1),y∈xs from λy hy=>by
       rcases List.mem_or_eq_of_mem_set hy with h|h
       · rcases List.mem_or_eq_of_mem_set h with h|h
         · exact h
         · rw[h,← Ww.out];exact List.getElem_mem C8
       · rw[h,← HX0.out];exact List.getElem_mem Db)
      have hcs:(k == 57)=false/\((k == 52)=true\/((k == 52)=false/\(k == 53)=true)\/((k == 52)=false/\(k == 53)=false/\(k == 54)=true)):=by rcases hk with rfl|rfl|rfl <;> simp
      clear hk;obtain⟨x0,hcs⟩:=hcs;rcases hcs with x1|⟨x1,x2⟩|⟨x1,x2,x3⟩
      all_goals
       go_upto_region 17 with fail;clear hln i1;refine wq 95 [some 69,some 70,some 71,some 72,some 73,some 74,some 75,some 76,some 77,some 78,some 79,some 80,some 81,some 82,some 83,none,some 84,none] [[],[0],[],[2],[],[],[5],[],[6,7],[8],[],[10],[11],[12],[1],[14,9],[3,4],[16,13]] [some (.pointer (some ⟨g5,3,none⟩)),some (.slice (some ⟨g,0,none⟩) l.length l.length),some (.pointer (some ⟨g5,3,none⟩)),some (.slice (some ⟨g,0,none⟩) l.length l.length),some (.int .i64 q),some (.pointer (some ⟨g5,3,none⟩)),some (.slice (some ⟨g,0,none⟩) l.length l.length),some (.int .i64 q),some (.pointer (some ⟨g,q * 4,none⟩)),some (.agg #[.int .u8 k2,.int .i64 n2,.string s2,.slice a2 m2 c2]),some (.pointer (some ⟨g5,3,none⟩)),some (.slice (some ⟨g,0,none⟩) l.length l.length),some (.pointer (some ⟨g,0,none⟩)),some (.agg #[.int .u8 k1,.int .i64 n1,.string s1,.slice a1 m1 c1]),some (.pointer (some ⟨g,0,none⟩)),none,some (.pointer (some ⟨g,q * 4,none⟩)),none] [15,17] (λs x=>Mv (λb=>b=g) wr x/\gQ x w2.heap.size (.slice (some ⟨g,0,none⟩) l.length l.length) (if s=0 then xs else if s=1 then xs.set 0 (.mk k2 n2 s2 (.slice a2 m2 c2) l2)else(xs.set 0 (.mk k2 n2 s2 (.slice a2 m2 c2) l2)).set q (.mk k1 n1 s1 (.slice a1 m1 c1) l1))) ?m0 ?steps ?done
       case m0=>exact⟨(Mv.refl _ _).drew,HRW.out⟩
       case steps =>
        refine⟨?s0,?s1,?s2,?s3,?s4,?s5,?s6,?s7,?s8,?s9,?s10,?s11,?s12,?s13,?s14,?s15,?s16,?s17,trivial⟩
        case s0|s2|s4|s5|s7|s8|s10|s12|s14|s16 =>
         refine qc (λx => ?_);simp only[zS,zC];go_simp;exact⟨rfl,rfl⟩
        case s1|s3|s6|s11 =>
         refine qm (λs x hM => ?_);have hbx:x.heap[g5]? = _:=(hM.1.block g5 hl5 wh.out).trans xI.out;obtain⟨⟨c0,c1⟩,c2,c3⟩:=aC hbx;have hlx:=lt_of_block hbx;clear hM hbx;simp only[zS,zC];go_simp;exact⟨rfl,rfl⟩
        case s9 =>
         refine qr 0 (λx hM => ?_);rw[if_pos rfl]at hM;obtain⟨b,o,p,e,-,hc⟩:=(fI tK (by have:=hM.2;rwa[← hxl]at this)).at C8;simp only[Value.slice.injEq,Option.some.injEq,Addr.mk.injEq,and_true,true_and]at e;obtain⟨⟨rfl,rfl⟩,-⟩:=e;rw[JJ]at hc;have d0:=hc 0 _ rfl;have d1:=hc 1 _ rfl;have d2:=hc 2 _ rfl;have d3:=hc 3 _ rfl;simp only[Nat.add_zero,Nat.zero_add,Nat.zero_mul]at d0 d1 d2 d3;have hgl:=World.block_lt_of_cell? _ _ d0;clear hc hM;simp only[zS,zC];go_simp;exact⟨rfl,rfl⟩
        case s13 =>
         refine qr 0 (λx hM => ?_);rw[if_pos rfl]at hM;obtain⟨b,o,p,e,-,hc⟩:=(fI tK (by have:=hM.2;rwa[← hxl]at this)).at Db;simp only[Value.slice.injEq,Option.some.injEq,Addr.mk.injEq,and_true,true_and]at e;obtain⟨⟨rfl,rfl⟩,-⟩:=e;rw[hx0]at hc;have d0:=hc 0 _ rfl;have d1:=hc 1 _ rfl;have d2:=hc 2 _ rfl;have d3:=hc 3 _ rfl;simp only[Nat.add_zero,Nat.zero_add,Nat.zero_mul]at d0 d1 d2 d3;have hgl:=World.block_lt_of_cell? _ _ d0;clear hc hM;simp only[zS,zC];go_simp;exact⟨rfl,rfl⟩
        case s15 =>
         refine qw 0 (λx hM => ?_);simp only[Nat.reduceAdd,Nat.reduceEqDiff,if_true,if_false,reduceIte]at hM ⊢;have hset:=gQ.set hM.2 0 Db k2 n2 s2 (.slice a2 m2 c2) l2;have hcell:=BQ hM.2 Db;simp only[Nat.zero_mul,Nat.zero_add]at hset hcell;have FW:=ł (show _/\_ from⟨hM.1.trans hset.2 (λ_ e => .inl e),hset.1⟩);have zt:=BX hM.2;obtain⟨⟨v0,e0⟩,⟨v1,e1⟩,⟨v2,e2⟩,⟨v3,e3⟩,hgl⟩:=hcell;clear hM hset;simp only[zS,zC];go_simp;exact⟨FW.out.1,FW.out.2⟩
        case s17 =>
         refine qw 1 (λx hM => ?_);simp only[Nat.reduceAdd,Nat.reduceEqDiff,if_true,if_false,reduceIte]at hM ⊢;have hset:=gQ.set hM.2 q (by simpa using C8) k1 n1 s1 (.slice a1 m1 c1) l1;have hcell:=BQ hM.2 (show q<(xs.set 0 (.mk k2 n2 s2 (.slice a2 m2 c2) l2)).length by simpa using C8);have hzz:=hM.1;have FW:=ł (show _/\_ from⟨hM.1.trans hset.2 (λ_ e => .inl e),hset.1⟩);have zt:=BX hM.2;obtain⟨⟨v0,e0⟩,⟨v1,e1⟩,⟨v2,e2⟩,⟨v3,e3⟩,hgl⟩:=hcell;clear hM hset;simp only[zS,zC];go_simp;exact⟨FW.out.1,FW.out.2⟩
       case done =>
       intro w5 hM;simp only[List.length_cons,List.length_nil,Nat.zero_add,Nat.reduceAdd,Nat.reduceEqDiff,if_false,reduceIte]at hM;simp only[zS,zC,Nat.zero_add,Nat.reduceAdd];have hmv:=hM.1;have FT:=ł hM.2;clear hM;have zo:=ł (show w5.heap[g5]? = some (.cells #[.int .u8 k,.int .i64 n,.string s,.slice (some ⟨g,0,none⟩) l.length l.length] 24 (0,0))from by rw[hmv.block g5 hl5 wh.out];exact xI.out);have vX:=ł (show Grow w2 w5 from bS.out.trans hmv (λb e => .inr (by have:=(HRW.out.lt g rfl).1;omega)));have FU:=ł (show ∀ y∈(xs.set 0 (.mk k2 n2 s2 (.slice a2 m2 c2) l2)).set q (.mk k1 n1 s1 (.slice a1 m1 c1) l1),dG (λb=>w2.heap.size<=b/\b≠g/\b≠g5) w5 y from λy hy=>(C9.out y (HYX.out y hy)).stay hmv (λb cs z hp _ e=>hp.2.1 e));have FV:=ł HK.out;clear hmv;obtain⟨⟨b0,b1⟩,b2,b3⟩:=aC zo.out;have hl5:=lt_of_block zo.out;have hrb:=ai aZ.out vX.out;have hlr:=lt_of_block hrb;obtain⟨⟨r0,r1⟩,r2,r3⟩:=aC hrb;have zr:=aG hrb;obtain⟨ht1,ht2⟩:=mh hrb (.int .u8 k) (.int .i64 n) (.string s) (.slice (some ⟨g,0,none⟩) l.length l.length);have iE:=ł ht1;have zQ:=ł (Lv HG2.out ⟨Nat.le_succ _,O6.out⟩ FV.out HN.out HS.out FT.out FU.out vX.out ht2);clear ht1 ht2 hrb;go_wp2_with fail;obtain⟨⟨t0,t1⟩,t2,t3⟩:=aC iE.out;exact bodyPost_ret (v:=ae.val (.mk k n s (.slice (some ⟨g,0,none⟩) l.length l.length) ((xs.set 0 (.mk k2 n2 s2 (.slice a2 m2 c2) l2)).set q (.mk k1 n1 s1 (.slice a1 m1 c1) l1)))) (by simp[results,Tryz.results33,go_sem,t0,t1,t2,t3,ae.val]) rfl ⟨_,rfl,Da.out,zQ.out.1,zQ.out.2⟩
    · have hcs:(k == 50)=true\/((k == 50)=false/\(k == 51)=true)\/((k == 50)=false/\(k == 51)=false):=by cases(k == 50) <;> cases(k == 51) <;> simp
      rcases hcs with x1|⟨x1,x2⟩|⟨x1,x2⟩
      all_goals
       have Da:=ł (show ae.t (.mk (lY k) n s (.slice (some ⟨g,0,none⟩) l.length l.length) xs)=bY (ae.t (.mk k n s (.slice ka l.length kc) l))from by
        rw[ae.t,ae.t,bY,if_neg (by omega),if_neg (by omega),← LG (b:=false) (by simp;try omega) hxl BK.out])
       obtain⟨hs0,hm0⟩:=aaA xI.out (.int .u8 (lY k));have zo:=ł hs0;have vX:=ł (show Grow w2 _ from bS.out.trans hm0 (λb e => .inr (by have:=ach.out;omega)));have FT:=ł (show gQ _ w2.heap.size (.slice (some ⟨g,0,none⟩) l.length l.length) xs from bg HRW.out hm0 (λb hb e=>by
        simp only[Value.ownBlock,Option.some.injEq]at hb;subst hb;exact wh.out e.symm))
       have FU:=ł (show ∀ y∈xs,dG (λb=>w2.heap.size<=b/\b≠g/\b≠g5) _ y from λy hy=>(C9.out y hy).stay hm0 (λb cs z hp _ e=>hp.2.2 e));have FV:=ł (aaU HK.out);have lF:=ł (λw'=>ZK k w');clear hs0 hm0;go_wp2_with fail;refine(lF.out _).mono ?_;rintro e w' ⟨rfl,rfl⟩;generalize lY k=K' at *;obtain⟨⟨b0,b1⟩,b2,b3⟩:=aC zo.out;have hl5:=lt_of_block zo.out;have hrb:=ai aZ.out vX.out;have hlr:=lt_of_block hrb;obtain⟨⟨r0,r1⟩,r2,r3⟩:=aC hrb;have zr:=aG hrb;obtain⟨ht1,ht2⟩:=mh hrb (.int .u8 K') (.int .i64 n) (.string s) (.slice (some ⟨g,0,none⟩) l.length l.length);have iE:=ł ht1;have zQ:=ł (Lv HG2.out ⟨Nat.le_succ _,O6.out⟩ FV.out HN.out HS.out FT.out FU.out vX.out ht2);clear ht1 ht2 hrb;go_wp2_with fail;obtain⟨⟨t0,t1⟩,t2,t3⟩:=aC iE.out;exact bodyPost_ret (v:=ae.val (.mk K' n s (.slice (some ⟨g,0,none⟩) l.length l.length) xs)) (by simp[results,Tryz.results33,go_sem,t0,t1,t2,t3,ae.val]) rfl ⟨_,rfl,Da.out,zQ.out.1,zQ.out.2⟩
theorem aaC (x:ae) (w:World) (hst:bq x.t=true\/bF x.t=true) (hs:aI x.t<=100000) (h:aR w x):Calls Tryz.prog 33 #[x.val,.bool false] w (Uf w (bY x.t)):=Y2 _ x (Nat.le_refl _) hst hs w h
end Go.Proofs.YtnobahchcongnaaGreatDoor
