import Derived.Test.YtnobahchcongnaaGreatF26
set_option linter.unusedSimpArgs false
set_option linter.unusedVariables false
set_option maxRecDepth 100000
set_option maxHeartbeats 25600000
namespace Go.Proofs.YtnobahchcongnaaGreat
open Go.RowKit Go.Instr
attribute [local go_sem ↓] lu
def pX (base:Nat) (w:World) (v:Value) (p:aI):Prop:=∃ ca cc ra rc,v = .agg #[.slice ca p.code.length cc,.slice ra p.refs.length rc]/\dN w base (.slice ca p.code.length cc) p.code/\rE w base (.slice ra p.refs.length rc) p.refs
theorem pX.later {base:Nat} {w w':World} {v:Value} {p:aI} (h:pX base w v p) (hm:Grow w w'):pX base w' v p:=by
 obtain⟨ca,cc,ra,rc,hv,h1,h2⟩:=h;exact⟨ca,cc,ra,rc,hv,bM h1 hm (λ_ _ e=>e),bM h2 hm (λ_ _ e=>e)⟩
theorem pX.low {base base':Nat} {w:World} {v:Value} {p:aI} (h:pX base w v p) (hb:base'<=base):pX base' w v p:=by
 obtain⟨ca,cc,ra,rc,hv,h1,h2⟩:=h;refine⟨ca,cc,ra,rc,hv,Fv h1 hb,h2.1,?_⟩;rcases h2.2 with h3|⟨g,cap,cur,e,h3,h4⟩
 · exact .inl h3
 · exact .inr ⟨g,cap,cur,e,by omega,h4⟩
theorem pX.box {base:Nat} {x y:World} {v:Value} {p:aI} {g:Nat} (h:pX base x v p) (hb:x.heap[g]? = some (.cells #[.slice none 0 0,.slice none 0 0] 45 (0,0))) (hm:Mv (λb=>b=g) x y):pX base y v p:=by
 obtain⟨ca,cc,ra,rc,hv,h1,h2⟩:=h;exact⟨ca,cc,ra,rc,hv,bM h1 hm (λq hq e=>by subst e;exact eO h1 hb (by decide) hq),bM h2 hm (λq hq e=>by subst e;exact eO h2 hb (by decide) hq)⟩
theorem OV (v:Value) (ps:List aI) (w:World) (h:iw w v ps) (hlc:bH ps<=200000) (hlr:bX ps<=200000) (hlp:ps.length<=200000) :
 Calls Tryz.prog 59 #[v] w λe w'=>∃ v',e = .returned v'/\pX w.heap.size w' v' (aP ps)/\Grow w w':=by
 obtain⟨pa,pc,rfl,-,-⟩:=h.form;have pQ:=ł h;have mX:=ł (show ji w ((w.alloc (.cells #[.slice none 0 0,.slice none 0 0] 45)).alloc (.cells #[.slice none 0 0,.slice none 0 0] 45)) (.slice none 0 0) (.slice none 0 0) [] []from
  ⟨((Mv.refl _ w).alloc _).alloc _,by have:=heap_alloc_new (w.alloc (.cells #[.slice none 0 0,.slice none 0 0] 45)) (.cells #[.slice none 0 0,.slice none 0 0] 45);rwa[World.size_alloc]at this,aO (heap_alloc_new w _) _,World.ownsRow_nil _ _ _ _,World.ownsRow_nil _ _ _ _⟩)
 clear h
 go_enter Tryz.func59,Tryz.ntmps59
 go_wp2_with fail;generalize (w.alloc (.cells #[.slice none 0 0,.slice none 0 0] 45)).alloc (.cells #[.slice none 0 0,.slice none 0 0] 45)=w1 at *
 go_loopw [11] (λt wr=>∃ (k:Nat) (cv rv:Value),t = .int .i64 k/\k<=ps.length/\ji w wr cv rv (aP (ps.take k)).code (aP (ps.take k)).refs) (λt _=>ps.length - (intOf t).toNat)
 case atStart=>exact⟨0,_,_,rfl,Nat.zero_le _,mX.out⟩
 obtain⟨k,cv,rv,rfl,hk,hst⟩:=hrel;have DT:=ł (iH (ps.take k));have tT:=ł (λhlt=>Oj ps k hlt);have qV:=ł (λhlt=>Oi ps k hlt);have Mj:=ł (λ(e:k=ps.length)=>show aP (ps.take k)=aP ps from by rw[e,List.take_length]);generalize aP (ps.take k)=pk at *;obtain⟨cs,rs⟩:=pk;obtain⟨na,nc,rV⟩:=gy hst.row;obtain⟨ma,mc,hmv⟩:=gy hst.kV;subst rV hmv;simp only at hst;have HST:=ł hst;clear hst mX;by_cases hlt:k<ps.length
 · have hq:∃ qa jk ra rcc b off cap',Value.slice pa ps.length pc = .slice (some ⟨b,off,none⟩) ps.length cap'/\(wr.cell? ⟨b,off+k * 2,none⟩=some (.slice qa ps[k].code.length jk)/\wr.cell? ⟨b,off+k * 2+1,none⟩=some (.slice ra ps[k].refs.length rcc))/\ax 5 Ins.cells w (.slice qa ps[k].code.length jk) ps[k].code/\ax 2 cO.cells w (.slice ra ps[k].refs.length rcc) ps[k].refs:=by
    obtain⟨vs,h1,h2,h3⟩:=pQ.out;have hvk:k<vs.length:=by omega
    obtain⟨b,off,cap',e,_,hc⟩:=(h2.later HST.out.g).at hvk;obtain⟨qa,jk,ra,rcc,hv,hr1,hr2⟩:=h3 k hvk hlt;simp only[Value.agg.injEq,Array.mk.injEq,List.cons.injEq,and_true]at hv;obtain⟨e1,e2⟩:=hv;refine⟨qa,jk,ra,rcc,b,off,cap',by rw[e,h1],⟨?_,?_⟩,hr1,hr2⟩
    · have:=hc 0 _ rfl;rw[← e1];simpa[rD]using this
    · have:=hc 1 _ rfl;rw[← e2];simpa[rD]using this
   obtain⟨qa,jk,ra,rcc,b,off,cap',e,⟨c0,c1⟩,hr1,hr2⟩:=hq;simp only[Value.slice.injEq,true_and]at e;obtain⟨rfl,rfl⟩:=e;have hbl:b<wr.heap.size:=World.block_lt_of_cell? wr _ c0;have ht:=tT.out hlt;have hj:=DT.out;have HJ2:=ł (qV.out hlt);generalize ps[k]=q at *;obtain⟨qc,qr⟩:=q;simp only at hr1 hr2 ht hj c0 c1;have pK:qc.length<=300000:=by omega
   have _T:cs.length+qc.length<=200000:=by omega
   have _U:rs.length+qr.length<=200000:=by omega
   have HR1:=ł hr1;have HR2:=ł hr2;have hg2:Grow wr (wr.alloc (.cells #[.slice qa qc.length jk,.slice ra qr.length rcc] 45)):=(Mv.refl _ wr).alloc _;have aY:=ł (HST.out.grow hg2);have dV:=ł (heap_alloc_new wr (.cells #[.slice qa qc.length jk,.slice ra qr.length rcc] 45));obtain⟨k0,k1⟩:=aC HST.out.blk;have hlX:=lt_of_block HST.out.blk;have Mk:w.heap.size+1≠wr.heap.size:=by omega
   have hor:∀ g,Value.ownBlock (.slice na cs.length nc)=some g->g<wr.heap.size:=λg hg=>(HST.out.row.lt g hg).2;have yC:=ł hor;have eB:=ł hg2;clear hg2 hor hr1 hr2 ht hj qV tT DT HST;go_wp2_with fail;clear k0 k1 c0 c1;have zb:wr.heap.size<(wr.alloc (.cells #[.slice qa qc.length jk,.slice ra qr.length rcc] 45)).heap.size:=by simp
   generalize wr.alloc (.cells #[.slice qa qc.length jk,.slice ra qr.length rcc] 45)=w2 at *;have HST:=aY;have lT:=ł (λ(x:World) (hx:Mv (λb=>b=w.heap.size+1\/Value.ownBlock (.slice na cs.length nc)=some b) w2.drew x)=>(show x.heap[wr.heap.size]? = _ from(hx.block wr.heap.size zb (λe=>by rcases e with e|e;exact Mk e.symm;have:=yC.out _ e;omega)).trans dV.out));have DU:=ł (λ(x:World) (hx:Grow w x)=>HR1.out.later hx);refine rq (by kernel_rfl) 48 [some 18,some 19,some 20,some 21,some 22,some 23,some 24,some 25,none] [[],[0],[],[2],[],[3,4],[1,5,5],[0,1,2,3,4,5,6],[7,6,6,0,1,2,3,4,5,6]] [[],[0],[],[2],[],[3,4],[1,5],[],[7,6]] [[0],[1],[2],[3],[4],[5],[6],[7],[8]] [[],[],[],[],[],[6],[8],[],[]] rfl (by kernel_rfl) (Mv (λb=>b=w.heap.size+1\/Value.ownBlock (.slice na cs.length nc)=some b)) (λ_=>Mv.refl _ _) (λx y z h1 h2=>h1.trans h2 (λ_ e => .inl e)) (YJ (w.heap.size+1) wr.heap.size (.slice na cs.length nc) (.slice ma rs.length mc) (.slice qa qc.length jk) cs.length (dG qc cs.length) w (cs ++ dG qc cs.length) rs) (λ_ x=>ji w x (.slice na cs.length nc) (.slice ma rs.length mc) cs rs) [[6]] ?z0 ?steps ?done
   case z0=>intro z hz;exact HST.out.drew
   case steps =>
    refine⟨?s0,?s1,?s2,?s3,?s4,?s5,?s6,?s7,?s8,trivial⟩
    case s0|s2|s4 =>
     intro vs x hx hY hZ;clear hY hZ;simp only[zR];go_simp;exact⟨Mv.refl _ _,by intros;assumption,rfl,by intros;assumption⟩
    case s1 =>
     intro vs x hx hY hZ;have h0:vs 0 = .pointer (some ⟨w.heap.size+1,0,none⟩):=hY 0 (by simp) (by simp);obtain⟨k0,k1⟩:=aC (hZ 0 (by simp) (by simp)).blk;clear hY hZ;simp only[zR,h0];go_simp;exact⟨Mv.refl _ _,by intros;assumption,rfl,by intros;assumption⟩
    case s3 =>
     intro vs x hx hY hZ;have h2:vs 2 = .pointer (some ⟨wr.heap.size,0,none⟩):=hY 2 (by simp) (by simp);obtain⟨k0,k1⟩:=aC (lT.out x hx);clear hY hZ;simp only[zR,h2];go_simp;exact⟨Mv.refl _ _,by intros;assumption,rfl,by intros;assumption⟩
    case s5 =>
     intro vs x hx hY hZ;have h3:vs 3 = .slice qa qc.length jk:=hY 3 (by simp) (by simp);have h4:vs 4 = .int .i64 cs.length:=hY 4 (by simp) (by simp);have HC:=ł (Jr (.slice qa qc.length jk) qc cs.length x (DU.out x (hZ 0 (by simp) (by simp)).g) pK);clear hY hZ;simp only[zR,h3,h4];go_simp;refine HC.out.mono ?_;rintro e y ⟨v,rfl,hrs⟩;obtain⟨va,vc,rfl⟩:=gy hrs.row;have hgr:=hrs.g;exact⟨_,rfl,hgr.mono (λ_ e=>e.elim),(by first|exact λh=>ji.grow h hgr|(intros;exact ji.grow (by assumption) hgr)),⟨va,vc,rfl,iF (λ_=>rfl) hrs.row⟩,by intros;exact YJ.grow hgr _ _ (by assumption)⟩
    case s6 =>
     intro vs x hx hY hZ;have h1:vs 1 = .slice na cs.length nc:=hY 1 (by simp) (by simp);obtain⟨sa,sc,(h5:vs 5=_),hrow⟩:=hY 5 (by simp) (by simp);have hst:=hZ 0 (by simp) (by simp);obtain⟨a',c',w2,⟨hok,hv,hw⟩,hrow2,bK,hown2⟩:=oZ Tryz.Fp (f:=Ins.cells) (λ_=>rfl) _ _ cs _ _ x hst.row hrow Fq hst.g.size (by rw[xI];omega);have HJ:=ł (hst.app bK);have HR2:=ł hrow2;have dE:=ł bK;clear hY hZ hst hrow hrow2 bK hown2;simp only[zR,h1,h5];go_simp;exact⟨dE.out.mono (λ_ e => .inl (.inr e)),⟨a',c',by rw[List.length_append];rfl,by have:=HR2.out;rw[← List.length_append]at this;exact this,HJ.out⟩,λj l=>by intros;refine YJ.keep j l ?_ ?_ ?_ (by assumption) <;> (intro e;subst e;first|contradiction|simp_all)⟩
    case s7 =>
     intro vs x hx hY hZ;clear hY hZ;simp only[zR];go_simp;exact⟨Mv.refl _ _,rfl,by intros;assumption⟩
    case s8 =>
     intro vs x hx hY hZ;have h7:vs 7 = .pointer (some ⟨w.heap.size+1,0,none⟩):=hY 7 (by simp) (by simp);obtain⟨a',c',(h6:vs 6=_),hrow,hj⟩:=hY 6 (by simp) (by simp);rw[List.length_append]at h6 hrow;have HS:=ł (hj.store hrow);obtain⟨k0,k1⟩:=aC hj.2.1;have zt:=aD hj.2.1;have dE:=ł (Ka hj.2.1 (vs 6));rw[h6]at dE;clear hY hZ hrow hj;simp only[zR,h7,h6];go_simp;exact⟨dE.out.2.mono (λ_ e => .inl (.inl e)),⟨a',c',by rw[List.length_append];exact HS.out⟩,λj l=>by intros;refine YJ.keep j l ?_ ?_ ?_ (by assumption) <;> (intro e;subst e;first|contradiction|simp_all)⟩
   case done =>
   intro vs wy hxy hY _;obtain⟨a',c',hst'⟩:=hY 8 (by decide) rfl;simp only[List.length_cons,List.length_nil,Nat.zero_add,Nat.reduceAdd];rw[show List.range 9=[0,1,2,3,4,5,6,7,8]from rfl];simp only[zR];clear hY;have bS:=ł (lT.out wy hxy);have oF:=ł hst';clear hst' hxy lT HST DU dV aY yC eB;have hc2:(cs ++ dG qc cs.length).length=cs.length+qc.length:=by rw[List.length_append,xI]
   generalize hcc:cs ++ dG qc cs.length=c2 at *;have nJ:=ł hcc;have rX:=ł hc2;clear hcc hc2;obtain⟨k0,k1⟩:=aC bS.out;have hlB:=lt_of_block bS.out;go_wp2_with fail;clear k0 k1 hlB;obtain⟨wo,hwo⟩:∃ wo:World,wo=wy:=⟨_,rfl⟩;subst hwo
   go_loopw [29] (λt wr2=>∃ (j:Nat) (rv':Value),t = .int .i64 j/\j<=qr.length/\ji w wr2 (.slice a' c2.length c') rv' c2 (rs ++ (qr.take j).map λr=>r.shift cs.length)) (λt _=>qr.length - (intOf t).toNat)
   case atStart=>exact⟨0,_,rfl,Nat.zero_le _,by simpa using oF.out⟩
   obtain⟨j,rv',rfl,hjl,hst⟩:=hrel;have ve:=ł (λhlt:j<qr.length=>show rs ++ (qr.take (j+1)).map (λr=>r.shift cs.length)=(rs ++ (qr.take j).map λr=>r.shift cs.length) ++ [qr[j].shift cs.length]from by
    rw[List.take_succ_eq_append_getElem hlt,List.map_append,List.append_assoc];rfl)
   have zP:=ł (λ(e:j=qr.length)=>show rs ++ (qr.take j).map (λr=>r.shift cs.length)=rs ++ qr.map λr=>r.shift cs.length from by rw[e,List.take_length]);have hrl:(rs ++ (qr.take j).map λr=>r.shift cs.length).length<=200000:=by simp;omega
   generalize (rs ++ (qr.take j).map λr=>r.shift cs.length)=r2 at *;obtain⟨dW,dX,tV⟩:=gy hst.kV;subst tV;have nK:=ł hst;clear hst;by_cases hjt:j<qr.length
   · obtain⟨b2,_V,cap2,e,_,zf⟩:=(HR2.out.later nK.out.g).at hjt;simp only[Value.slice.injEq,true_and]at e;obtain⟨rfl,rfl⟩:=e;have c0:=zf 0 _ rfl;have c1:=zf 1 _ rfl;have AY:=ł (ve.out hjt);have DV:=ł (show qr[j].shift cs.length=⟨wrap64 (qr[j].at'+cs.length),qr[j].name⟩from rfl);generalize qr[j]=r at *;obtain⟨r0,r1⟩:=r;simp only[Nat.add_zero]at c0 c1 DV;have hb2:b2<wr.heap.size:=World.block_lt_of_cell? _ _ c0;clear zf ve;have gW:=ł (nK.out.grow ((Mv.refl _ wr).alloc (.cells #[.int .i64 r0,.string r1] 129)));obtain⟨a4,c4,w4,⟨hok,hv,hw⟩,hrow4,nX⟩:=Qp _ ⟨wrap64 (r0+cs.length),r1⟩ r2 _ _ gW.out.kV gW.out.g.size (by omega);have pM:=ł (gW.out.Ru nX hrow4);have h2:w4.heap[w.heap.size+1]? = some (.cells #[.slice a' c2.length c',.slice dW r2.length dX] 45 (0,0)):=by rw[nX.block _ (lt_of_block gW.out.blk) (λe=>eO gW.out.kV gW.out.blk (by decide) e)];exact gW.out.blk
     obtain⟨k0,k1⟩:=aC nK.out.blk;obtain⟨m0,m1⟩:=aC h2;have zt:=aD h2;have _W:=lt_of_block nK.out.blk;rw[World.size_alloc]at hok hv hw;clear hrow4 nX h2 nK;go_wp2_with fail
     go_roundw
     case rel=>exact⟨j+1,_,by go_num,by omega,by rw[AY.out,DV.out];simpa using pM.out⟩
     case measure=>(simp[intOf] <;> omega)
   · have HF:=ł (zP.out (by omega));go_wp2_with fail
     go_roundw
     case rel=>exact⟨k+1,_,_,by go_num,by omega,by rw[HJ2.out,I5,I6];simp only;rw[nJ.out,← HF.out];exact nK.out⟩
     case measure=>(simp[intOf] <;> omega)
 · have HE:=ł (Mj.out (by omega));obtain⟨k0,k1⟩:=aC HST.out.blk;obtain⟨m0,m1⟩:=aC HST.out.res;have hl1:=lt_of_block HST.out.blk;have hl2:=lt_of_block HST.out.res;have zt:=aD HST.out.res;obtain⟨hs,hm⟩:=set2 HST.out.res (.slice na cs.length nc) (.slice ma rs.length mc);have HS:=ł hs;have aQ:=ł (show Grow w _ from Mv.trans HST.out.g hm (λb e => .inr (by omega)));have Bn:=ł (show pX w.heap.size _ (.agg #[.slice na cs.length nc,.slice ma rs.length mc]) (aP ps)from by
    rw[← HE.out];exact⟨na,nc,ma,mc,rfl,bM HST.out.row hm (λg hg e=>by subst e;exact eO HST.out.row HST.out.res (by decide) hg),bM HST.out.kV hm (λg hg e=>by subst e;exact eO HST.out.kV HST.out.res (by decide) hg)⟩)
   clear hs hm HST;go_wp2_with fail;obtain⟨t0,t1⟩:=aC HS.out;exact bodyPost_ret (v := .agg #[.slice na cs.length nc,.slice ma rs.length mc]) (by simp[results,Tryz.results59,go_sem,t0,t1]) rfl ⟨_,rfl,Bn.out,aQ.out⟩
theorem qg.low {base base':Nat} {w:World} {v:Value} {p:aI} (h:qg base w v p) (hb:base'<=base):qg base' w v p:=by
 obtain⟨ca,cc,ra,rc,hv,h1,h2⟩:=h;exact⟨ca,cc,ra,rc,hv,Fv h1 hb,h2⟩
theorem qg.box {base:Nat} {x y:World} {v:Value} {p:aI} {g:Nat} (h:qg base x v p) (hb:x.heap[g]? = some (.cells #[.slice none 0 0,.slice none 0 0] 45 (0,0))) (hm:Mv (λb=>b=g) x y):qg base y v p:=by
 obtain⟨ca,cc,ra,rc,hv,h1,h2⟩:=h;exact⟨ca,cc,ra,rc,hv,bM h1 hm (λq hq e=>by subst e;exact eO h1 hb (by decide) hq),Fu (a:=(none,0,0)) (b:=(none,0,0)) h2 (λu=>⟨_,rfl,by simp⟩) hb hm⟩
def sK (cs:List Ins) (i j:Nat):List Ins:=match cs[i]?,cs[j]? with
 |some x,some y=>(cs.set i (x.j6 j)).set j (y.j6 i)
 |_,_=>cs
theorem OW (cs:List Ins) (i j:Nat):(sK cs i j).length=cs.length:=by
 unfold sK;split <;> simp
theorem Fw (p:aI) (i j:Nat):nU p i j=⟨sK p.code i j,p.refs⟩:=by
 unfold nU sK;split
 · rename_i x y h1 h2;simp only[h1,h2]
 · rename_i h;split
   · rename_i x y h1 h2;exact absurd h2 (h x y h1)
   · rfl
theorem EI (base g nc n:Nat) (cs:List Ins) (ra:Option Addr) (rn rc i j:Nat) (w:World) (hrow:dN w base (.slice (some ⟨g,0,none⟩) n nc) cs) (hn:cs.length=n) (hi:i<n) (hj:j<n) (hij:i≠j) (hl:n<=300000) :
 Calls Tryz.prog 111 #[.agg #[.slice (some ⟨g,0,none⟩) n nc,.slice ra rn rc],.int .i64 i,.int .i64 j] w λe w'=>e = .returned (.tuple #[])/\dN w' base (.slice (some ⟨g,0,none⟩) n nc) (sK cs i j)/\Mv (λb=>b=g) w w':=by
 subst hn;have h:=PN base g nc cs ra rn rc i j w hrow hi hj hij hl;have e:sK cs i j=(cs.set i (cs[i].j6 j)).set j (cs[j].j6 i):=by
  unfold sK;rw[List.getElem?_eq_getElem hi,List.getElem?_eq_getElem hj]
 rw[e];exact h
end Go.Proofs.YtnobahchcongnaaGreat
