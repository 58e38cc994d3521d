import Derived.Test.YtbpodipdfohikaaGreatK14
import Derived.Test.YtbpodipdfohikaaGreatK13
set_option linter.unusedSimpArgs false
set_option linter.unusedVariables false
set_option maxRecDepth 100000
set_option maxHeartbeats 25600000
namespace Go.Proofs.YtbpodipdfohikaaGreat
open Go.RowKit Go.Instr
attribute [local go_sem ↓] gD
theorem BG {L:Array Bool} (h4:kT [[],[],[1],[],[3,2],[0,2,4,4],[5]] L) (i:Nat) (hi:i<5) (h2:L.getD i false=false):L.getD 5 false=false:=by
 rcases hb:L.getD 5 false with _|_
 · rfl
 · exfalso
   have a0:=h4 5 hb 0 (by simp)
   have a2:=h4 5 hb 2 (by simp)
   have a4:=h4 5 hb 4 (by simp)
   have a3:=h4 4 a4 3 (by simp)
   have a1:=h4 2 a2 1 (by simp)
   match i,hi with
   |0,_=>rw[a0]at h2;cases h2
   |1,_=>rw[a1]at h2;cases h2
   |2,_=>rw[a2]at h2;cases h2
   |3,_=>rw[a3]at h2;cases h2
   |4,_=>rw[a4]at h2;cases h2
set_option maxRecDepth 100000 in
set_option maxHeartbeats 12800000 in
theorem Vm (Ts:Nat->TypeId->Bool) (Sp:List (Value × ae)->Prop) (J Jx:List (Value × ae)->World->Prop) (n0 l Y P V:Nat) (hT:qQ Ts n0) (hJ:∀ s X Z,J s X->qV Ts n0 X Z->J s Z)
 (hY:∀ pre (x:Value × ae) W1,J pre W1->Sp (pre ++ [x])->aL (λ_=>True) W1 x.2->YieldAt Fence.wide 10 Tryz.prog l #[x.1,x.2.fix.val] W1 λe W'=>(e = .returned (.bool true)/\J (pre ++ [x]) W'/\iA Ts W1 W')\/(e = .returned (.bool false)/\Jx (pre ++ [x]) W')) :
 ∀ (m:Nat) (x:ae),SizeOf.sizeOf x<=m->∀ (W:World) (pre:List (Value × ae)) (path:Value) (ps:List Int),ps.length+bL x.t<=900000->mJ n0 l Y P V W path ps->aL (λ_=>True) W x->J pre W->n0<=W.heap.size->(∀ zs,came zs <+: bO x.t->jX zs->Sp (pre ++ zs)) ->
  Calls Tryz.prog 103 #[x.val,.pointer (some ⟨Y,0,none⟩),.pointer (some ⟨P,0,none⟩),.pointer (some ⟨V,0,none⟩)] W (XH Ts J Jx pre n0 l Y P V ps x W):=by
 intro m
 induction m with
 |zero=>intro x hm;cases x;simp at hm
 |succ m ih =>
  intro x hm W pre path ps hsz hvs hno hj hn0 hsp
  have dD:=Lib.hid hsp
  clear hsp
  obtain⟨k,n,s,kv,ls⟩:=x
  obtain⟨ka,kc,rfl,hkc,hkl⟩:=hno.at.form
  obtain⟨pa,pc,hpv⟩:=dX hvs.row
  subst hpv
  have iM:=Lib.hid (λ(i:Nat) (hi:i<ls.length)=>ih ls[i] (by
   have:=rX (k:=k) (n:=n) (s:=s) (kv := .slice ka ls.length kc) (List.getElem_mem hi)
   omega))
  have Az:=Lib.hid (λ(i:Nat) (hi:i<ls.length)=>show ps.length+1+bL ls[i].t<=900000/\ls.length<=900000 from by have:=Ej (k:=k) (n:=n) (s:=s) (kv := .slice ka ls.length kc) i hi;omega)
  have yg:=Lib.hid (show ps.length<=900000/\bL (ae.t (.mk k n s (.slice ka ls.length kc) ls))<=900000 from by omega)
  have rD:=Lib.hid (heap_alloc_new W (.cells #[.int .u8 k,.int .i64 n,.string s,.slice ka ls.length kc] 40))
  have hg2:Grow W (W.alloc (.cells #[.int .u8 k,.int .i64 n,.string s,.slice ka ls.length kc] 40)):=(Mv.refl _ _).alloc _
  have gu:=Lib.hid hg2
  have rH:=Lib.hid (hvs.bd hT (mG hg2))
  have bV:=Lib.hid (hno.bd hT.node (mG (Ts:=Ts) hg2))
  have HJ2:=Lib.hid (hJ _ _ _ hj (En hg2))
  have HS2:=Lib.hid (show n0<=(W.alloc (.cells #[.int .u8 k,.int .i64 n,.string s,.slice ka ls.length kc] 40)).heap.size from by simp;omega)
  clear hvs hno hj hg2 ih hsz
  simp only[ae.val]
  go_enter Tryz.func103,Tryz.ntmps103
  go_upto_region 1 with fail
  generalize W.alloc (.cells #[.int .u8 k,.int .i64 n,.string s,.slice ka ls.length kc] 40)=w2 at *
  refine Tg (by kernel_rfl) 37 [some 8,some 9,some 10,some 11,some 12,some 13,some 14] [[],[],[1],[],[3,2],[0,2,4,4],[5]] [[],[],[1],[],[3],[0,2,4],[5]] rfl (by kernel_rfl)
   (VI J Jx Ts pre l (.slice pa ps.length pc) (.agg #[.int .u8 k,.int .i64 n,.string s,.slice ka ls.length kc]) (ae.t (.mk k n s (.slice ka ls.length kc) ls)) w2) ?i0 ?steps ?done
  case i0=>exact⟨λ_=>⟨by simp,(Mv.refl _ _).drew,by simp,by simp,by simp,by simp,by simp⟩,by simp,by simp⟩
  case steps =>
   refine⟨?s0,?s1,?s2,?s3,?s4,?s5,?s6,trivial⟩
   case s0 =>
    intro L vs x h1 h2 h3 h4 h5
    have h50:=BG h4 0 (by decide) h2
    have hG:=(h5.1 h50).2.1
    have c0:=cell1 (rH.out.bd hT (mG hG)).y
    have HH:=Lib.hid h5
    clear h3 h4 h5
    unfold kC
    simp only[aK,Act.put,List.getD_cons_zero,List.getD_cons_succ,List.setIfInBounds_toArray,List.set_cons_zero,List.set_cons_succ]
    go_simp
    exact HH.out.put h1 0 (by decide) h50 _ (Mv.refl _ _) (λ_=>rfl) (by simp) (by simp) (by simp) (by simp)
   case s1 =>
    intro L vs x h1 h2 h3 h4 h5
    have h50:=BG h4 1 (by decide) h2
    have hG:=(h5.1 h50).2.1
    have c0:=cell1 (rH.out.bd hT (mG hG)).p
    have HH:=Lib.hid h5
    clear h3 h4 h5
    unfold kC
    simp only[aK,Act.put,List.getD_cons_zero,List.getD_cons_succ,List.setIfInBounds_toArray,List.set_cons_zero,List.set_cons_succ]
    go_simp
    exact HH.out.put h1 1 (by decide) h50 _ (Mv.refl _ _) (by simp) (λ_=>rfl) (by simp) (by simp) (by simp)
   case s2 =>
    intro L vs x h1 h2 h3 h4 h5
    have h50:=BG h4 2 (by decide) h2
    have hv1:vs 1 = .slice pa ps.length pc:=(h5.1 h50).2.2.2.1 (h3 1 (by simp))
    have hG:=(h5.1 h50).2.1
    have HC:=Lib.hid (Gr (.slice pa ps.length pc) ps x (dW (λ_=>rfl) (rH.out.bd hT (mG hG)).row) (by have:=yg.out.1;omega))
    have HH:=Lib.hid h5
    clear h3 h4 h5
    unfold kC
    simp only[aK,Act.put,List.getD_cons_zero,List.getD_cons_succ,List.setIfInBounds_toArray,List.set_cons_zero,List.set_cons_succ,hv1]
    go_simp
    refine(HC.out).mono ?_
    rintro e y ⟨v,rfl,hr,-,hg⟩
    exact⟨_,rfl,HH.out.put h1 2 (by decide) h50 _ hg (by simp) (by simp) (by simp) (by simp) (λ_=>by obtain⟨a,c,h,_⟩:=hr;exact⟨a,_,c,h⟩)⟩
   case s3 =>
    intro L vs x h1 h2 h3 h4 h5
    have h50:=BG h4 3 (by decide) h2
    have hG:=(h5.1 h50).2.1
    obtain⟨⟨n0',n1⟩,n2,n3⟩:=az (ah rD.out hG)
    have HH:=Lib.hid h5
    clear h3 h4 h5
    unfold kC
    simp only[aK,Act.put,List.getD_cons_zero,List.getD_cons_succ,List.setIfInBounds_toArray,List.set_cons_zero,List.set_cons_succ]
    go_simp
    exact HH.out.put h1 3 (by decide) h50 _ (Mv.refl _ _) (by simp) (by simp) (λ_=>rfl) (by simp) (by simp)
   case s4 =>
    intro L vs x h1 h2 h3 h4 h5
    have h50:=BG h4 4 (by decide) h2
    have hv3:vs 3 = .agg #[.int .u8 k,.int .i64 n,.string s,.slice ka ls.length kc]:=(h5.1 h50).2.2.2.2.1 (h3 3 (by simp))
    have hG:=(h5.1 h50).2.1
    have HC:=Lib.hid (Lv (.mk k n s (.slice ka ls.length kc) ls) x yg.out.2 (bV.out.at.later hG))
    simp only[ae.val]at HC
    have HH:=Lib.hid h5
    clear h3 h4 h5
    unfold kC
    simp only[aK,Act.put,List.getD_cons_zero,List.getD_cons_succ,List.setIfInBounds_toArray,List.set_cons_zero,List.set_cons_succ,hv3]
    go_simp
    refine(HC.out).mono ?_
    rintro e y ⟨v,rfl,ht,Ot,hg⟩
    exact⟨_,rfl,HH.out.put h1 4 (by decide) h50 _ hg (by simp) (by simp) (by simp) (λ_=>⟨v,by rw[Ot.fix],ht,Ot.weak (λ_ _ _=>trivial)⟩) (by simp)⟩
   case s5 =>
    intro L vs x h1 h2 h3 h4 h5
    have hG:=(h5.1 h2).2.1
    have hv0:=(h5.1 h2).2.2.1 (h3 0 (by simp))
    obtain⟨y',hv4,mr,hnw⟩:=(h5.1 h2).2.2.2.2.2.1 (h3 4 (by simp))
    have hsl:=(h5.1 h2).2.2.2.2.2.2 (h3 2 (by simp))
    obtain⟨fn,tmps,assign,body,hy,hR⟩:=hY pre (vs 2,y') x (hJ _ _ _ HJ2.out (En hG)) (dD.out [(vs 2,y')] (by simp[came,mr,bO,ae.t]) (jX.one hsl)) hnw
    have HR:=Lib.hid (Lr (m:=0) hR)
    have HH:=Lib.hid h5
    clear h3 h4 h5 hR
    unfold kC
    simp only[aK,Act.put,List.getD_cons_zero,List.getD_cons_succ,List.setIfInBounds_toArray,List.set_cons_zero,List.set_cons_succ,hv0,hv4]
    go_simp
    refine(HR.out).mono ?_
    rintro e y (⟨rfl,qd,hb3⟩|⟨rfl,hx3⟩)
    · exact⟨_,rfl,HH.out.Oq h1 h2 _ ⟨_,mr,hsl,.inl ⟨rfl,qd,qz (mG hG) hb3⟩⟩⟩
    · exact⟨_,rfl,HH.out.Oq h1 h2 _ ⟨_,mr,hsl,.inr ⟨rfl,hx3⟩⟩⟩
   case s6 =>
    intro L vs x h1 h2 h3 h4 h5
    have Av:=h3 5 (by simp)
    obtain⟨b,hv5⟩:∃ b,vs 5 = .bool b:=by
     obtain⟨z,-,-,h|h⟩:=h5.2.1 Av
     · exact⟨_,h.1⟩
     · exact⟨_,h.1⟩
    have HH:=Lib.hid h5
    clear h3 h4 h5
    unfold kC
    simp only[aK,Act.put,List.getD_cons_zero,List.getD_cons_succ,List.setIfInBounds_toArray,List.set_cons_zero,List.set_cons_succ,hv5]
    go_simp
    exact HH.out.Zn h1 Av b hv5
  case done =>
  intro L vs w3 hall hI
  obtain⟨b,hv5,hv6⟩:=hI.2.2 (hall 6 (by simp))
  obtain⟨z,rJ,hzs,hz⟩:=hI.2.1 (hall 5 (by simp))
  simp only[List.length_cons,List.length_nil,Nat.zero_add,Nat.reduceAdd]
  rw[show List.range 7=[0,1,2,3,4,5,6]from rfl]
  simp only[aK,Act.put,List.getD_cons_zero,List.getD_cons_succ,List.setIfInBounds_toArray,List.set_cons_zero,List.set_cons_succ,hv5,hv6]
  rcases hz with⟨e5,qd,hb3⟩|⟨e5,hx3⟩
  · rw[hv5]at e5
    simp only[Value.bool.injEq]at e5
    subst e5
    have _F:=Lib.hid qd
    have HB3:=Lib.hid hb3
    have Ou:=Lib.hid (hb3.cells rD.out (hT.node _))
    have _G:=Lib.hid (rH.out.bd hT hb3)
    clear hI hall qd hb3
    generalize vs 0=v0 at *
    generalize vs 1=v1 at *
    generalize vs 2=v2 at *
    generalize vs 3=v3 at *
    generalize vs 4=v4 at *
    clear hv5 hv6 vs
    obtain⟨⟨d0,d1⟩,d2,d3⟩:=az Ou.out
    have hlb:=lt_of_block Ou.out
    simp only[Bool.not_true]
    go_wp2_with fail
    clear d0 d1 d2 d3 hlb
    go_loopw [18] (λt wr=>∃ (j:Nat) (ys:List (Value × ae)) (path':Value),t = .int .i64 j/\j<=ls.length/\came ys=ae.t (.mk k n s (.slice ka ls.length kc) ls) :: eD ((ae.ts ls).take j)/\jX ys/\J (pre ++ ys) wr/\mJ n0 l Y P V wr path' ps/\iA (rG Ts) w2 wr) (λt _=>ls.length - (intOf t).toNat)
    case atStart=>exact⟨0,[z],_,rfl,Nat.zero_le _,by simp[came,rJ,eD],jX.one hzs,_F.out,_G.out,HB3.out._E⟩
    obtain⟨j,ys,path',rfl,hj,NQ,hal,QB,hv4,hb4⟩:=hrel
    have ym:=Lib.hid hal
    clear hal
    have QD:=Lib.hid QB
    have Jm:=Lib.hid hv4
    have bY:=Lib.hid hb4
    have HCM:=Lib.hid NQ
    clear NQ QB hb4
    by_cases hlt:j<ls.length
    · obtain⟨kb,ko,nQ,dz,-,-⟩:=bV.out.at.row.2.2.2.1.at (show 0<ls.length by omega)
      simp only[Value.slice.injEq,true_and]at dz
      obtain⟨rfl,rfl⟩:=dz
      obtain⟨pb,qc,yo⟩:=dX hv4.row
      subst yo
      have Jn:aL (λ_=>True) wr (.mk k n s (.slice (some ⟨kb,ko,none⟩) ls.length kc) ls):=bV.out.bd (Ts:=rG Ts) (by simp[rG,hT.node]) bY.out
      have fB:=uW Jn.at j hlt
      have _H:=Lib.hid (show aL (λ_=>True) wr ls[j]from by cases Jn with|mk _ _ _ _ _ each=>exact each _ (List.getElem_mem hlt))
      have HC:=Lib.hid (iM.out j hlt)
      have hsz2:=Az.out j hlt
      have vW:=Lib.hid (show came ys ++ bO ls[j].t=ae.t (.mk k n s (.slice (some ⟨kb,ko,none⟩) ls.length kc) ls) :: eD ((ae.ts ls).take (j+1))from by
       rw[HCM.out,KY _ j (by rw[ae.bX];exact hlt),ae.jw ls j hlt];rfl)
      have QE:=Lib.hid (show came ys ++ bO ls[j].t <+: bO (ae.t (.mk k n s (.slice (some ⟨kb,ko,none⟩) ls.length kc) ls))from by
       have:=TC (ae.ts ls) j (by rw[ae.bX];exact hlt)
       rw[ae.jw ls j hlt]at this
       rw[HCM.out]
       simpa[ae.t,bO]using this)
      have yt:=Lib.hid (λ(zs:List (Value × ae)) (hz:came zs <+: bO ls[j].t) (hzz:jX zs)=>show Sp (pre ++ ys ++ zs)from by
       rw[List.append_assoc]
       refine dD.out (ys ++ zs) ?_ (ym.out.app hzz)
       have e:came (ys ++ zs)=came ys ++ came zs:=by simp[came]
       rw[e]
       exact((List.prefix_append_right_inj _).2 hz).trans QE.out)
      have _I:=Lib.hid (show(ps ++ [(j:Int)]).length+bL ls[j].t<=900000 from by simp;omega)
      clear hv4 Jn
      generalize ls[j]=y at *
      obtain⟨yk,yn,ys',yv,yl⟩:=y
      obtain⟨ya,yc,rfl,-,-⟩:=fB.at_.form
      obtain⟨⟨d0,d1⟩,d2,d3⟩:=fB.four
      simp only[ae.val]at HC
      have hbl:kb<wr.heap.size:=World.block_lt_of_cell? wr _ d0
      have kg:=Lib.hid (heap_alloc_new wr (.cells #[.int .u8 yk,.int .i64 yn,.string ys',.slice ya yl.length yc] 40))
      have hga:Grow wr (wr.alloc (.cells #[.int .u8 yk,.int .i64 yn,.string ys',.slice ya yl.length yc] 40)):=(Mv.refl _ _).alloc _
      have hgb:Grow wr ((wr.alloc (.cells #[.int .u8 yk,.int .i64 yn,.string ys',.slice ya yl.length yc] 40)).alloc (.cells #[.int .i64 j] 3)):=hga.alloc _
      have hva:=Jm.out.bd hT (mG hga)
      have hvb:=Jm.out.bd hT (mG hgb)
      have hib:=heap_alloc_new (wr.alloc (.cells #[.int .u8 yk,.int .i64 yn,.string ys',.slice ya yl.length yc] 40)) (.cells #[.int .i64 j] 3)
      rw[World.size_alloc]at hib
      have hn0:n0<=wr.heap.size:=by have:=HS2.out;have:=bY.out.size;omega
      obtain⟨a',c',wc,⟨hok,hv,hw⟩,hrow2,lX,-⟩:=XG _ j ps n0 _ _ hvb.row (by have:=hgb.size;omega) yg.out.1 hib
      have c0:=cell1 hva.p
      have hlp:=lt_of_block hva.p
      have hpc:wc.heap[P]? = some (.cells #[.slice pb ps.length qc] 22 (0,0)):=by
       rw[lX.block P (lt_of_block hvb.p) (λe=>bW hvb.row hvb.p (by decide) e)];exact hvb.p
      obtain⟨hs1,hs2⟩:=set1 hpc (.slice a' (ps.length+1) c')
      have zc:=bB hpc
      have _J:=cell1 hpc
      have hlc:=lt_of_block hpc
      have hmd:Mv (λb=>b=P\/(Value.slice pb ps.length qc).ownBlock=some b) _ (wc.setCell ⟨P,0,none⟩ (.slice a' (ps.length+1) c')):=(lX.mono (λb e => .inl (.inr e))).trans hs2 (λb e => .inl (.inl e))
      have hrd:=bu hrow2 hs2 (λg hg e=>by subst e;exact bW hrow2 hpc (by decide) hg)
      have Jo:=Lib.hid (show mJ n0 l Y P V (wc.setCell ⟨P,0,none⟩ (.slice a' (ps.length+1) c')) (.slice a' (ps.length+1) c') (ps ++ [(j:Int)])from hvb.step hmd hs1 hrd)
      obtain⟨hi1,hi2⟩:=Nf hT hmd (λb hb=>hvb.own hb)
      have _O:=Lib.hid (hJ _ _ _ (hJ _ _ _ QD.out (En hgb)) hi1)
      have rF:=Lib.hid (qz bY.out (qz (mG hgb) hi2))
      have iC:=Lib.hid (_H.out.bd (Ts:=rG Ts) (by simp[rG,hT.node]) (qz (mG hgb) hi2))
      have _Q:=Lib.hid (show n0<=(wc.setCell ⟨P,0,none⟩ (.slice a' (ps.length+1) c')).heap.size from by have:=hmd.size;have:=hgb.size;omega)
      have Jp:(wc.setCell ⟨P,0,none⟩ (.slice a' (ps.length+1) c')).heap[wr.heap.size]? = some (.cells #[.int .u8 yk,.int .i64 yn,.string ys',.slice ya yl.length yc] 40 (0,0)):=by
       have h1:=bS kg.out (.cells #[.int .i64 (j:Int)] 3)
       have h2:(wc.setCell ⟨P,0,none⟩ (.slice a' (ps.length+1) c')).heap[wr.heap.size]? = _:=hmd.block wr.heap.size (lt_of_block h1) (λe=>by
        obtain⟨-,cs,t,zz,hc,ht⟩:=hvb.own e
        rw[h1]at hc
        simp only[Option.some.injEq,Obj.cells.injEq]at hc
        obtain⟨-,rfl,-⟩:=hc
        rcases ht with ht|ht <;> exact absurd ht (by decide))
       rw[h2];exact h1
      obtain⟨⟨y0,y1⟩,y2,y3⟩:=az Jp
      have _R:=lt_of_block Jp
      have _T:=cell1 Jo.out.v
      have hlv:=lt_of_block Jo.out.v
      clear hva hvb hib hmd hrd hi1 hi2 hga hgb Jp lX hrow2 hs1 hs2 fB hpc
      generalize hwd:wc.setCell ⟨P,0,none⟩ (.slice a' (ps.length+1) c')=wd at *
      go_wp2_with fail
      refine(HC.out wd (pre ++ ys) _ (ps ++ [(j:Int)]) _I.out Jo.out iC.out _O.out _Q.out yt.out).mono ?_
      clear hok hv hw c0 hlp zc _J hlc hwd y0 y1 y2 y3 _R _T hlv d0 d1 d2 d3 hbl HC kg
      rintro e w5 (⟨rfl,abG,AA,QF,hs5,CV,hv5,hb5⟩|⟨rfl,AA,uj,hs5,hx5⟩)
      · obtain⟨p5,q5,uj⟩:=dX hv5.row
        have hl5:(ps ++ [(j:Int)]).length=ps.length+1:=by simp
        rw[hl5]at uj
        subst uj
        have c5:=cell1 hv5.p
        have hl:=lt_of_block hv5.p
        have z5:=bB hv5.p
        have hlen:=yg.out.1
        have hcap:ps.length+1<=q5:=by
         rcases hv5.row.2 with⟨e,-⟩|⟨g,cap,cur,e,-,-,h,-⟩
         · simp at e
         · simp only[Value.slice.injEq]at e
           rw[hl5]at h;omega
        have i1:IntKind.i64.wrap (((ps.length+1:Nat):Int) - 1)=(ps.length:Int):=by rw[IntWalk.i64_in _ (by omega)];omega
        obtain⟨hs1,hs2⟩:=set1 hv5.p (.slice p5 ps.length q5)
        have hmd:Mv (λb=>b=P\/(Value.slice p5 (ps.length+1) q5).ownBlock=some b) w5 (w5.setCell ⟨P,0,none⟩ (.slice p5 ps.length q5)):=hs2.mono (λb e => .inl (.inl e))
        have mY:=BF (n:=1) (f:=aU) (l:=ps) (x:=(j:Int)) (λ_=>rfl) hv5.row
        have hrd:=bu mY hs2 (λg hg e=>by subst e;exact bW mY hv5.p (by decide) hg)
        have _U:=Lib.hid (hv5.step hmd hs1 hrd)
        obtain⟨hi1,hi2⟩:=Nf hT hmd (λb hb=>hv5.own hb)
        have _V:=Lib.hid (hJ _ _ _ CV hi1)
        have jG:=Lib.hid (qz rF.out (qz hb5 hi2))
        have CW:=Lib.hid ((show came (ys ++ AA)=came ys ++ came AA from by simp[came]).trans (by rw[QF,vW.out]))
        have Iy:=Lib.hid (ym.out.app hs5)
        clear hs5 hmd mY hrd hi1 hi2 hs1 hs2 hv5 CV hb5 QF vW
        go_wp2_with fail
        refine⟨⟨j+1,ys ++ AA,_,by simp,by omega,CW.out,Iy.out,by have:=_V.out;rwa[List.append_assoc]at this,_U.out,jG.out⟩,by simp[intOf] <;> omega⟩
      · have gP:=Lib.hid hx5
        have Iy:=Lib.hid (ym.out.app hs5)
        clear hs5
        have CW:=Lib.hid (show came (ys ++ AA) <+: _ from by
         obtain⟨r,hr⟩:=uj
         refine List.IsPrefix.trans ?_ QE.out
         exact⟨r,by rw[← hr];simp[came]⟩)
        clear hx5 uj
        go_wp2_with fail
        go_ret
        exact .inr ⟨rfl,ys ++ AA,CW.out,Iy.out,by have:=gP.out;rwa[List.append_assoc]at this⟩
    · obtain rfl:j=ls.length:=by omega
      have CW:=Lib.hid (show came ys=bO (ae.t (.mk k n s (.slice ka ls.length kc) ls))from by
       rw[HCM.out,List.take_of_length_le (by rw[ae.bX];exact Nat.le_refl _)];simp[ae.t,bO])
      go_wp2_with fail
      go_ret
      exact .inl ⟨rfl,_,ys,CW.out,ym.out,QD.out,Jm.out,qz (mG gu.out) bY.out⟩
  · rw[hv5]at e5
    simp only[Value.bool.injEq]at e5
    subst e5
    have jN:=Lib.hid hx3
    clear hI hall hx3
    simp only[Bool.not_false]
    go_wp2_with fail
    go_ret
    exact .inr ⟨rfl,[z],by simp[came,rJ,bO,ae.t],jX.one hzs,jN.out⟩
set_option maxRecDepth 100000 in
set_option maxHeartbeats 6400000 in
theorem LB (Ts:Nat->TypeId->Bool) (R:Nat) (x:ae) (w:World) (hT:qQ Ts w.heap.size) (hb:w.heap[R]? = some (.cells x.cells.toArray 40 (0,0))) (hno:aL (λ_=>True) w x) (hs:bL x.t<=900000) :
 LA Tryz.prog Ts 102 #[.pointer (some ⟨R,0,none⟩)] (λz:Value × ae=>#[z.1,z.2.fix.val]) (λxs=>came xs=bO x.t/\jX xs) (λpre=>came pre <+: bO x.t/\jX pre) (λz W=>aL (λ_=>True) W z.2) w:=by
 intro l J Jx W hW hJ hJx hY h0
 obtain⟨k,n,s,kv,ls⟩:=x
 obtain⟨ka,kc,rfl,-,-⟩:=hno.at.form
 have hga:Grow W (W.alloc (.cells #[.func (.yield l) #[] #[]] 151)):=(Mv.refl _ _).alloc _
 have hgb:=hga.alloc (.cells #[.slice none 0 0] 22)
 have hgc:=hgb.alloc (.cells #[.func (.func 103) #[] #[.pointer (some ⟨W.heap.size,0,none⟩),.pointer (some ⟨W.heap.size+1,0,none⟩),.pointer (some ⟨W.heap.size+1+1,0,none⟩)]] 65)
 have HV:=Lib.hid (show mJ W.heap.size l W.heap.size (W.heap.size+1) (W.heap.size+1+1) _ (.slice none 0 0) []from
  ⟨bS (bS (heap_alloc_new W _) _) (.cells #[.func (.func 103) #[] #[.pointer (some ⟨W.heap.size,0,none⟩),.pointer (some ⟨W.heap.size+1,0,none⟩),.pointer (some ⟨W.heap.size+1+1,0,none⟩)]] 65),
   bS (by have:=heap_alloc_new (W.alloc (.cells #[.func (.yield l) #[] #[]] 151)) (.cells #[.slice none 0 0] 22);rwa[World.size_alloc]at this) _,
   by have:=heap_alloc_new ((W.alloc (.cells #[.func (.yield l) #[] #[]] 151)).alloc (.cells #[.slice none 0 0] 22)) (.cells #[.func (.func 103) #[] #[.pointer (some ⟨W.heap.size,0,none⟩),.pointer (some ⟨W.heap.size+1,0,none⟩),.pointer (some ⟨W.heap.size+1+1,0,none⟩)]] 65);rwa[World.size_alloc,World.size_alloc]at this,
   by omega,World.ownsRow_nil _ _ _ _⟩)
 have HN:=Lib.hid ((hno.bd hT.node (mG (Ts:=Ts) hW)).bd hT.node (mG (Ts:=Ts) hgc))
 have HJ:=Lib.hid (hJ _ _ _ h0 (En hgc))
 have HG:=Lib.hid hgc
 have hrb:=ah (ah hb hW) hgc
 have HC:=Lib.hid (Vm Ts (λpre=>came pre <+: bO (ae.t (.mk k n s (.slice ka ls.length kc) ls))/\jX pre) J Jx W.heap.size l W.heap.size (W.heap.size+1) (W.heap.size+1+1) (hT.up hW.size) hJ hY _ _ (Nat.le_refl _) _ [] _ [] (by simpa using hs) HV.out HN.out HJ.out hgc.size (λzs hz hs=>⟨hz,hs⟩))
 obtain⟨⟨d0,d1⟩,d2,d3⟩:=az hrb
 have hlr:=lt_of_block (ah hb hW)
 have Zo:=lt_of_block hrb
 simp only[ae.val]at HC
 clear hno hga hgb hgc hb h0 hrb hs HV HN HJ
 show Calls Tryz.prog 102 #[.func (.yield l) #[] #[],.pointer (some ⟨R,0,none⟩)] W _
 go_enter Tryz.func102,Tryz.ntmps102
 go_wp2_with fail
 refine HC.out.mono ?_
 clear d0 d1 d2 d3 hlr Zo HC
 rintro e w5 (⟨rfl,path',ys,hc,hs,hj,-,-⟩|⟨rfl,ys,hp,hs,hx⟩)
 · have HH:=Lib.hid hj
   clear hj
   go_wp2_with fail
   go_end0
   exact⟨⟨_,rfl⟩,.inl ⟨ys,⟨hc,hs⟩,HH.out⟩⟩
 · have HH:=Lib.hid hx
   clear hx
   go_wp2_with fail
   go_end0
   exact⟨⟨_,rfl⟩,.inr ⟨ys,⟨hp,hs⟩,HH.out⟩⟩
theorem Wo (Ts:Nat->TypeId->Bool) (R:Nat) (x:ae) (w:World) (hT:qQ Ts w.heap.size) (hb:w.heap[R]? = some (.cells x.cells.toArray 40 (0,0))) (hno:aL (λ_=>True) w x) (hs:bL x.t<=900000) :
 Ms Tryz.prog Ts 102 #[.pointer (some ⟨R,0,none⟩)] (λz:Value × ae=>#[z.1,z.2.fix.val]) (λxs=>came xs=bO x.t) (λpre=>came pre <+: bO x.t) w:=λl J Jx W hW hJ hJx hY h0 =>
 (LB Ts R x w hT hb hno hs l J Jx W hW hJ hJx (λpre z W1 hj hp _=>hY pre z W1 hj hp.1) h0).mono λe W' ⟨hv,h⟩=>⟨hv,h.imp (λ⟨xs,h1,h2⟩=>⟨xs,h1.1,h2⟩) (λ⟨pre,h1,h2⟩=>⟨pre,h1.1,h2⟩)⟩
set_option maxRecDepth 100000 in
set_option maxHeartbeats 3200000 in
theorem Mt (x:ae) (w:World) (hx:bD w x) (hs:bL x.t<=900000) :
 Calls Tryz.prog 80 #[x.val] w λe w'=>∃ (R:Nat) (y:ae),e = .returned (.func (.func 102) #[] #[.pointer (some ⟨R,0,none⟩)])/\w'.heap[R]? = some (.cells y.cells.toArray 40 (0,0))/\aL (λ_=>True) w' y/\y.t=x.t/\Grow w w':=by
 obtain⟨k,n,s,kv,l⟩:=x
 obtain⟨ka,kc,rfl,-,-⟩:=hx.form
 have hga:Grow w (w.alloc (.cells #[.int .u8 k,.int .i64 n,.string s,.slice ka l.length kc] 40)):=(Mv.refl _ _).alloc _
 have HC:=Lib.hid (Lv _ _ hs (hx.later hga))
 have HG:=Lib.hid hga
 obtain⟨⟨d0,d1⟩,d2,d3⟩:=az (heap_alloc_new w (.cells #[.int .u8 k,.int .i64 n,.string s,.slice ka l.length kc] 40))
 simp only[ae.val]at HC
 clear hx hga hs
 simp only[ae.val]
 go_enter Tryz.func80,Tryz.ntmps80
 go_wp2_with fail
 refine HC.out.mono ?_
 clear d0 d1 d2 d3
 rintro e w5 ⟨y,rfl,mr,hno,hg⟩
 obtain⟨yk,yn,ys,yv,yl⟩:=y
 obtain⟨ya,yc,rfl,-,-⟩:=hno.at.form
 have hgb:Grow w5 (w5.alloc (.cells #[.int .u8 yk,.int .i64 yn,.string ys,.slice ya yl.length yc] 40)):=(Mv.refl _ _).alloc _
 have HN:=Lib.hid ((hno.weak (λ_ _ _=>trivial)).stay hgb (λ_ _ _ _ _ e=>e))
 have HB:=Lib.hid (heap_alloc_new w5 (.cells #[.int .u8 yk,.int .i64 yn,.string ys,.slice ya yl.length yc] 40))
 have bQ:=Lib.hid (gtr (gtr HG.out hg) hgb)
 have HT:=Lib.hid mr
 clear hno hg hgb HC mr
 simp only[ae.val]
 go_wp2_with fail
 go_ret
 exact⟨_,.mk yk yn ys (.slice ya yl.length yc) yl,rfl,HB.out,HN.out,HT.out,bQ.out⟩
attribute [local go_sem ↓] gD
theorem GX {P:Program} {t e:TypeId} {n bytes:Nat} {α:Type} {f:α->List Value} (E:Elem P t e n bytes) (hf:∀ x,(f x).length=n) (a:Option Addr) (l:List α) (x:α) (g:Nat) (w:World) (hr:ay n f w (.slice a l.length l.length) l) (hg:w.heap[g]? = some (.cells (f x).toArray e (0,0))) (h1:∀ u∈f x,u.oneCell'=true) (hlen:l.length<=900000) :
 ∃ a' c' w2,(nJ P t t (.slice a l.length l.length) (.slice (some ⟨g,0,none⟩) 1 1) w/\lW P t t (.slice a l.length l.length) (.slice (some ⟨g,0,none⟩) 1 1) w = .slice a' (l.length+1) c'/\appW P t t (.slice a l.length l.length) (.slice (some ⟨g,0,none⟩) 1 1) w=w2) /\
  (ay n f w2 (.slice a' (l.length+1) c') (l ++ [x])/\∀ g,(Value.slice a' (l.length+1) c').ownBlock=some g->∃ cs z,w2.heap[g]? = some (.cells cs e z))/\Grow w w2:=by
 obtain⟨i,z,hi,hz,hsz,hby,hzc⟩:=E.hi
 have hsrc:Src P i.size t (.slice (some ⟨g,0,none⟩) 1 1) 1 (f x) w:=Src.ofSlice w E.ht ⟨g,0,none⟩ 1 1 (f x) (by rw[hf,hsz];simp) (λj u hu=>by
  rw[GQ,Nat.zero_add]
  simp only[World.cell?,hg,Option.isSome_none,Bool.false_eq_true,if_false]
  simpa using hu) h1
 have hold:(Builtin.firstCells i.size l.length (.slice a l.length l.length)).run P w.drew = .ok (flat f l).toArray w.drew:=by
  obtain⟨sa,sc,e1,hsc,hsl,hcell⟩:=hr
  simp only[Value.slice.injEq,true_and]at e1
  obtain⟨rfl,rfl⟩:=e1
  cases a with
  |none =>
   obtain rfl:l=[]:=by
    cases l with
    |nil=>rfl
    |cons x l=>obtain⟨b,off,e,_⟩:=hcell 0 x rfl;cases e
   exact run_firstCells_none w.drew i.size 0 0 0
  |some a =>
   refine run_firstCells_some w.drew i.size l.length a l.length l.length (flat f l) (by rw[hsz];exact oN f n hf l) (λj u hu => ?_)
   obtain⟨i',r,rfl,hi',hu⟩:=flat_get _ n E.hn hf l j u hu
   obtain⟨b,off,e1,hc⟩:=hcell i' _ (List.getElem?_eq_getElem hi')
   simp only[Option.some.injEq]at e1
   subst e1
   have:=hc r u hu
   rw[GQ,← Nat.add_assoc];simpa using this
 have hr2:=run_append_grow_src (P:=P) w t t t e i _ E.ht hi hz a l.length l.length (flat f l) hold _ 1 (f x) hsrc (by omega) (by omega) (growslice_fits (by omega) (by rw[hby];have:=E.hb;have:=Nat.mul_le_mul (show l.length+1<=1000000 by omega) this;omega))
 obtain⟨hok,hv,hw⟩:=zP hr2
 have hge:=grownCap_ge w (l.length+1) l.length e
 have hB:=heap_alloc_new w.drew (.cells ((flat f l ++ f x).toArray ++ Builtin.zeroCells z.cells (grownCap w (l.length+1) l.length e - (l.length+1))) e)
 have hds:w.drew.heap.size=w.heap.size:=rfl
 rw[hds]at hB
 have hfl:flat f (l ++ [x])=flat f l ++ f x:=by rw[Gh];simp[flat]
 have hrw:=ay.MR (l:=l ++ [x]) (cap:=grownCap w (l.length+1) l.length e) hf hB (λj u hu=>by
  rw[hfl]at hu
  have hj:=(List.getElem?_eq_some_iff.1 hu).1
  rw[Array.getElem?_append_left (by simpa using hj)]
  simpa using hu) (by simpa using hge) (by simp;omega)
 exact⟨_,_,_,⟨hok,hv,hw⟩,⟨by simpa using hrw,λg hg=>by simp[Value.ownBlock]at hg;subst hg;exact⟨_,_,hB⟩⟩,((Mv.refl _ w).drew).alloc _⟩
set_option maxRecDepth 100000 in
set_option maxHeartbeats 1600000 in
theorem Wp (a:Option Addr) (n c:Nat) (w:World) (hn:n<=c) (hl:n<=9223372036854775807):Calls Tryz.prog 99 #[.slice a n c] w λe w'=>e = .returned (.slice a n n)/\w=w':=by
 go_enter Tryz.func99,Tryz.ntmps99
 go_wp2_with fail
 all_goals
  go_ret
  exact⟨rfl,rfl⟩
set_option maxRecDepth 100000 in
set_option maxHeartbeats 1600000 in
theorem Ng (a:Option Addr) (n c:Nat) (w:World) (hn:n<=c) (hl:n<=9223372036854775807):Calls Tryz.prog 100 #[.slice a n c] w λe w'=>e = .returned (.slice a n n)/\w=w':=by
 go_enter Tryz.func100,Tryz.ntmps100
 go_wp2_with fail
 all_goals
  go_ret
  exact⟨rfl,rfl⟩
theorem Tryz.Ym:(Tryz.prog.info? 50).map (λi=>(i.zero,i.size,i.bytes))=some (some (.agg #[.string ⟨#[]⟩,.int .u8 0,.int .i64 0]),3,32):=by kernel_rfl
theorem Tryz.Ez:Elem Tryz.prog 36 50 3 32:=Elem.of Tryz.underlying36 Tryz.Ym rfl (by decide) (by decide)
theorem sO (x:au):x.cells.length=3:=rfl
theorem GY {α:Type} {n:Nat} {f:α->List Value} {w:World} {a:Option Addr} {k c:Nat} {l:List α} (h:ay n f w (.slice a k c) l):ay n f w (.slice a l.length l.length) l:=by
 obtain⟨a',c',e,h2,h3,h4⟩:=h
 simp only[Value.slice.injEq]at e
 obtain⟨rfl,rfl,rfl⟩:=e
 exact⟨a,l.length,rfl,Nat.le_refl _,h3,h4⟩
def Ov {α:Type} (n:Nat) (f:α->List Value) (T:TypeId) (v0:Value) (l0 l:List α) (w:World) (e:Ending) (w':World):Prop:=∃ v,e = .returned v/\(ay n f w' v l/\((v=v0/\l=l0)\/∀ g,v.ownBlock=some g->∃ cs z,w'.heap[g]? = some (.cells cs T z)))/\Grow w w'
set_option maxRecDepth 100000 in
set_option maxHeartbeats 3200000 in
theorem LC (v:Value) (l:List Int) (i:Int) (w:World) (h:ay 1 aU w v l) (hb:l.length<=900000):Calls Tryz.prog 77 #[v,.int .i64 i] w (Ov 1 aU 3 v l (l ++ [i]) w):=by
 obtain⟨va,vc,rfl,oF,hvl⟩:=h.form
 have lF:=Lib.hid (Wp va l.length vc w oF hvl)
 have oG:=Lib.hid (heap_alloc_new w (.cells #[.int .i64 i] 3))
 have bE:=Lib.hid (show Grow w (w.alloc (.cells #[.int .i64 i] 3))from(Mv.refl _ w).alloc _)
 obtain⟨a',c',w2,⟨hok,hv,hw⟩,hrow,hg⟩:=GX Tryz.xu (f:=aU) (λ_=>rfl) va l i w.heap.size (w.alloc (.cells #[.int .i64 i] 3)) ((GY h).later bE.out) oG.out (by simp[aU,Value.oneCell']) hb
 have HRW:=Lib.hid hrow
 have HG2:=Lib.hid (gtr bE.out hg)
 clear h hrow hg oG
 go_enter Tryz.func77,Tryz.ntmps77
 go_wp2_with fail
 refine lF.out.mono ?_
 rintro e w3 ⟨rfl,rfl⟩
 go_wp2_with fail
 go_ret
 exact⟨_,rfl,⟨HRW.out.1,.inr HRW.out.2⟩,HG2.out⟩
def kU (t:Tree) (i:Nat) (l:List au):List au:=if t.kind=54/\i=1 then l ++ [⟨t.name,1,0⟩]else if t.kind=55/\i=0 then l ++ [⟨t.name,3,0⟩]else l
attribute [local go_sem ↓] gD
set_option maxRecDepth 100000 in
set_option maxHeartbeats 6400000 in
theorem Vn (k n:Int) (s:ByteArray) (ka:Option Addr) (l:List ae) (kc:Nat) (i:Nat) (v:Value) (aF:List au) (w:World) (hr:ay 3 au.cells w v aF) (hvs:aF.length<=900000):Calls Tryz.prog 79 #[.agg #[.int .u8 k,.int .i64 n,.string s,.slice ka l.length kc],.int .i64 i,v] w (Ov 3 au.cells 50 v aF (kU (ae.t (.mk k n s (.slice ka l.length kc) l)) i aF) w):=by
 obtain⟨va,vc,rfl,oF,hvl⟩:=hr.form
 have HV:=Lib.hid hr
 clear hr
 have aj:=Lib.hid (show Grow w (w.alloc (.cells #[.int .u8 k,.int .i64 n,.string s,.slice ka l.length kc] 40))from(Mv.refl _ w).alloc _)
 have bf:=Lib.hid (heap_alloc_new w (.cells #[.int .u8 k,.int .i64 n,.string s,.slice ka l.length kc] 40))
 have hnl:w.heap.size<(w.alloc (.cells #[.int .u8 k,.int .i64 n,.string s,.slice ka l.length kc] 40)).heap.size:=by simp
 have HR:=Lib.hid (show kU (ae.t (.mk k n s (.slice ka l.length kc) l)) i aF=if k=54/\i=1 then aF ++ [⟨s,1,0⟩]else if k=55/\i=0 then aF ++ [⟨s,3,0⟩]else aF from rfl)
 generalize kU (ae.t (.mk k n s (.slice ka l.length kc) l)) i aF=R at *
 by_cases h1:k=54/\i=1
 · obtain⟨rfl,rfl⟩:=h1
   have HR2:=Lib.hid (show R=aF ++ [⟨s,1,0⟩]from by rw[HR.out];simp)
   go_enter Tryz.func79,Tryz.ntmps79
   go_upto_region 2 with fail
   generalize (w.alloc (.cells #[.int .u8 54,.int .i64 n,.string s,.slice ka l.length kc] 40))=w1 at *
   have HK:=Lib.hid (λ(y:World) (hy:Grow w1 y)=>ah bf.out hy)
   refine kK 6 38 [some 15,some 16,some 17,some 18,some 19,some 20] [[],[0],[],[2],[3],[4]] [] [.c (.slice va aF.length vc),.c (.slice va aF.length aF.length),.c (.pointer (some ⟨w.heap.size,2,none⟩)),.c (.string s),.c (.agg #[.string s,.int .u8 1,.int .i64 0]),.p (λv y=>∃ g,v = .slice (some ⟨g,0,none⟩) 1 1/\y.heap[g]? = some (.cells #[.string s,.int .u8 1,.int .i64 0] 50 (0,0)))] ⟨⟨(λv x y hg h=>by obtain⟨g,hv,hb⟩:=h;exact⟨g,hv,ah hb hg⟩),λ_=>bg⟩,trivial⟩ (dm rfl) ?steps ?done
   case steps =>
    refine⟨?s0,?s1,?s2,?s3,?s4,?s5,trivial⟩
    case s0 =>
     refine oo (λvs x hP => ?_)
     simp only[zS]
     go_simp
     exact gc
    case s1 =>
     refine ok HK (λvs x hG HX hP => ?_)
     have HC:=Lib.hid (Ng va aF.length vc x oF hvl)
     simp only[zS]
     go_simp
     refine(HC.out).mono ?_
     rintro e y ⟨rfl,rfl⟩
     exact⟨_,rfl,gc⟩
    case s2 =>
     refine oo (λvs x hP => ?_)
     simp only[zS]
     go_simp
     exact gc
    case s3 =>
     refine ok HK (λvs x hG HX hP => ?_)
     obtain⟨⟨n0,n1⟩,n2,n3⟩:=az HX.out
     simp only[zS]
     go_simp
     exact gc
    case s4 =>
     refine oo (λvs x hP => ?_)
     simp only[zS]
     go_simp
     exact gc
    case s5 =>
     refine oo (λvs x hP => ?_)
     simp only[zS]
     go_simp
     exact gl ⟨_,rfl,heap_alloc_new x _⟩
   case done =>
   intro vs wx hE
   have hG:=hE.grow
   have p5:=hE.val 5
   obtain⟨g5,h5,b5⟩:=p5
   obtain⟨a',c',w2,⟨hok,hv,hw⟩,hrow,hg2⟩:=GX Tryz.Ez sO va aF ⟨s,1,0⟩ g5 wx ((GY HV.out).later (gtr aj.out hG)) b5 (by simp[au.cells,Value.oneCell']) hvs
   have HRW:=Lib.hid hrow
   have HG2:=Lib.hid (gtr (gtr aj.out hG) hg2)
   clear hrow hg2 hE hG
   simp only[zS,Nat.reduceAdd,h5,List.drop_succ_cons,List.drop_zero]
   go_wp2_with fail
   go_ret
   exact⟨_,rfl,⟨by rw[HR2.out];exact HRW.out.1,.inr HRW.out.2⟩,HG2.out⟩
 · by_cases h2:k=55/\i=0
   · obtain⟨rfl,rfl⟩:=h2
     have HR2:=Lib.hid (show R=aF ++ [⟨s,3,0⟩]from by rw[HR.out];simp)
     go_enter Tryz.func79,Tryz.ntmps79
     go_upto_region 4 with fail
     generalize (w.alloc (.cells #[.int .u8 55,.int .i64 n,.string s,.slice ka l.length kc] 40))=w1 at *
     have HK:=Lib.hid (λ(y:World) (hy:Grow w1 y)=>ah bf.out hy)
     refine kK 6 38 [some 30,some 31,some 32,some 33,some 34,some 35] [[],[0],[],[2],[3],[4]] [] [.c (.slice va aF.length vc),.c (.slice va aF.length aF.length),.c (.pointer (some ⟨w.heap.size,2,none⟩)),.c (.string s),.c (.agg #[.string s,.int .u8 3,.int .i64 0]),.p (λv y=>∃ g,v = .slice (some ⟨g,0,none⟩) 1 1/\y.heap[g]? = some (.cells #[.string s,.int .u8 3,.int .i64 0] 50 (0,0)))] ⟨⟨(λv x y hg h=>by obtain⟨g,hv,hb⟩:=h;exact⟨g,hv,ah hb hg⟩),λ_=>bg⟩,trivial⟩ (dm rfl) ?steps ?done
     case steps =>
      refine⟨?s0,?s1,?s2,?s3,?s4,?s5,trivial⟩
      case s0 =>
       refine oo (λvs x hP => ?_)
       simp only[zS]
       go_simp
       exact gc
      case s1 =>
       refine ok HK (λvs x hG HX hP => ?_)
       have HC:=Lib.hid (Ng va aF.length vc x oF hvl)
       simp only[zS]
       go_simp
       refine(HC.out).mono ?_
       rintro e y ⟨rfl,rfl⟩
       exact⟨_,rfl,gc⟩
      case s2 =>
       refine oo (λvs x hP => ?_)
       simp only[zS]
       go_simp
       exact gc
      case s3 =>
       refine ok HK (λvs x hG HX hP => ?_)
       obtain⟨⟨n0,n1⟩,n2,n3⟩:=az HX.out
       simp only[zS]
       go_simp
       exact gc
      case s4 =>
       refine oo (λvs x hP => ?_)
       simp only[zS]
       go_simp
       exact gc
      case s5 =>
       refine oo (λvs x hP => ?_)
       simp only[zS]
       go_simp
       exact gl ⟨_,rfl,heap_alloc_new x _⟩
     case done =>
     intro vs wx hE
     have hG:=hE.grow
     have p5:=hE.val 5
     obtain⟨g5,h5,b5⟩:=p5
     obtain⟨a',c',w2,⟨hok,hv,hw⟩,hrow,hg2⟩:=GX Tryz.Ez sO va aF ⟨s,3,0⟩ g5 wx ((GY HV.out).later (gtr aj.out hG)) b5 (by simp[au.cells,Value.oneCell']) hvs
     have HRW:=Lib.hid hrow
     have HG2:=Lib.hid (gtr (gtr aj.out hG) hg2)
     clear hrow hg2 hE hG
     simp only[zS,Nat.reduceAdd,h5,List.drop_succ_cons,List.drop_zero]
     go_wp2_with fail
     go_ret
     exact⟨_,rfl,⟨by rw[HR2.out];exact HRW.out.1,.inr HRW.out.2⟩,HG2.out⟩
   · have HR2:=Lib.hid (show R=aF from by rw[HR.out,if_neg h1,if_neg h2])
     go_enter Tryz.func79,Tryz.ntmps79
     by_cases k1:k=54
     · subst k1
       have e1:((i:Int) == 1)=false:=by simp;omega
       go_wp2_with fail
       go_ret
       exact⟨_,rfl,⟨by rw[HR2.out];exact HV.out.later aj.out,.inl ⟨rfl,by rw[HR2.out]⟩⟩,aj.out⟩
     · have e1:(k == 54)=false:=by simpa using k1
       by_cases k2:k=55
       · subst k2
         have e2:((i:Int) == 0)=false:=by simp;omega
         go_wp2_with fail
         go_ret
         exact⟨_,rfl,⟨by rw[HR2.out];exact HV.out.later aj.out,.inl ⟨rfl,by rw[HR2.out]⟩⟩,aj.out⟩
       · have e2:(k == 55)=false:=by simpa using k2
         go_wp2_with fail
         go_ret
         exact⟨_,rfl,⟨by rw[HR2.out];exact HV.out.later aj.out,.inl ⟨rfl,by rw[HR2.out]⟩⟩,aj.out⟩
end Go.Proofs.YtbpodipdfohikaaGreat
