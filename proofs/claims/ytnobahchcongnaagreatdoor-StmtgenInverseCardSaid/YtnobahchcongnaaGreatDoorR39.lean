import Derived.Test.YtnobahchcongnaaGreatDoorR38
import Derived.Test.YtnobahchcongnaaGreatDoorR35
set_option linter.unusedSimpArgs false
set_option linter.unusedVariables false
set_option maxRecDepth 100000
set_option maxHeartbeats 25600000
namespace Go.Proofs.YtnobahchcongnaaGreatDoor
open Go.RowKit Go.Instr
attribute [local go_sem ↓] ni
theorem DJ {L:Array Bool} (h4:yJ [[],[],[1],[],[3,2],[0,2,4,4],[5]] L) (i:Nat) (hi:i<5) (h2:L.getD i false=false):L.getD 5 false=false:=by
 rcases hb:L.getD 5 false with _|_
 · rfl
 · exfalso;have a0:=h4 5 hb 0 (by simp);have a2:=h4 5 hb 2 (by simp);have a4:=h4 5 hb 4 (by simp);have a3:=h4 4 a4 3 (by simp);have a1:=h4 2 a2 1 (by simp)
   match i,hi with
   |0,_=>rw[a0]at h2;cases h2
   |1,_=>rw[a1]at h2;cases h2
   |2,_=>rw[a2]at h2;cases h2
   |3,_=>rw[a3]at h2;cases h2
   |4,_=>rw[a4]at h2;cases h2
theorem ZE (Ts:TypeId->Bool) (hT:DW Ts) (Sp:List (Value × ae)->Prop) (J Jx:List (Value × ae)->World->Prop) (n0 l Y P V:Nat) (hJ:∀ s X Z,J s X->yV Ts n0 X Z->J s Z)
 (hY:∀ pre (x:Value × ae) W1,J pre W1->Sp (pre ++ [x])->YieldAt Fence.wide 10 Tryz.prog l #[x.1,x.2.fix.val] W1 λe W'=>(e = .returned (.bool true)/\J (pre ++ [x]) W'/\kI Ts W1 W')\/(e = .returned (.bool false)/\Jx (pre ++ [x]) W')) :
 ∀ (m:Nat) (x:ae),SizeOf.sizeOf x<=m->∀ (W:World) (pre:List (Value × ae)) (path:Value) (ps:List Int),ps.length+aI x.t<=900000->qK n0 l Y P V W path ps->dG (λ_=>True) W x->J pre W->n0<=W.heap.size->(∀ zs,came zs <+: jF x.t->Sp (pre ++ zs)) ->
  Calls Tryz.prog 67 #[x.val,.pointer (some ⟨Y,0,none⟩),.pointer (some ⟨P,0,none⟩),.pointer (some ⟨V,0,none⟩)] W (aaw Ts J Jx pre n0 l Y P V ps x W):=by
 intro m
 induction m with
 |zero=>intro x hm;cases x;simp at hm
 |succ m ih =>
  intro x hm W pre path ps hsz hvs hno hj hn0 hsp;have zM:=ł hsp;clear hsp;obtain⟨k,n,s,kv,ls⟩:=x;obtain⟨ka,kc,rfl,hkc,hkl⟩:=hno.at.form;obtain⟨pa,pc,hpv⟩:=gF hvs.row;subst hpv;have iB:=ł (λ(i:Nat) (hi:i<ls.length)=>ih ls[i] (by
   have:=ng (k:=k) (n:=n) (s:=s) (kv := .slice ka ls.length kc) (List.getElem_mem hi)
   omega))
  have jq:=ł (λ(i:Nat) (hi:i<ls.length)=>show ps.length+1+aI ls[i].t<=900000/\ls.length<=900000 from by have:=Dw (k:=k) (n:=n) (s:=s) (kv := .slice ka ls.length kc) i hi;omega);have CQ:=ł (show ps.length<=900000/\aI (ae.t (.mk k n s (.slice ka ls.length kc) ls))<=900000 from by omega);have aF:=ł (heap_alloc_new W (.cells #[.int .u8 k,.int .i64 n,.string s,.slice ka ls.length kc] 24));have hg2:Grow W (W.alloc (.cells #[.int .u8 k,.int .i64 n,.string s,.slice ka ls.length kc] 24)):=(Mv.refl _ _).alloc _;have bf:=ł hg2;have JS:=ł (hvs.bd hT (qB hg2));have sW:=ł (hno.bd hT.node (qB (Ts:=Ts) hg2));have HJ2:=ł (hJ _ _ _ hj (G7 hg2));have HS2:=ł (show n0<=(W.alloc (.cells #[.int .u8 k,.int .i64 n,.string s,.slice ka ls.length kc] 24)).heap.size from by simp;omega);clear hvs hno hj hg2 ih hsz;simp only[ae.val]
  go_enter Tryz.func67,Tryz.ntmps67
  go_upto_region 1 with fail;generalize W.alloc (.cells #[.int .u8 k,.int .i64 n,.string s,.slice ka ls.length kc] 24)=w2 at *;refine Xa (by kernel_rfl) 37 [some 8,some 9,some 10,some 11,some 12,some 13,some 14] [[],[],[1],[],[3,2],[0,2,4,4],[5]] [[],[],[1],[],[3],[0,2,4],[5]] rfl (by kernel_rfl)
   (VI J Jx Ts pre l (.slice pa ps.length pc) (.agg #[.int .u8 k,.int .i64 n,.string s,.slice ka ls.length kc]) (ae.t (.mk k n s (.slice ka ls.length kc) ls)) w2) ?i0 ?steps ?done
  case i0=>exact⟨λ_=>⟨by simp,(Mv.refl _ _).drew,by simp,by simp,by simp,by simp⟩,by simp,by simp⟩
  case steps =>
   refine⟨?s0,?s1,?s2,?s3,?s4,?s5,?s6,trivial⟩
   case s0 =>
    intro L vs x h1 h2 h3 h4 h5;have h50:=DJ h4 0 (by decide) h2;have hG:=(h5.1 h50).2.1;have c0:=cell1 (JS.out.bd hT (qB hG)).y;have HH:=ł h5;clear h3 h4 h5;unfold lI;simp only[zR];go_simp;exact HH.out.put h1 0 (by decide) h50 _ (Mv.refl _ _) (λ_=>rfl) (by simp) (by simp) (by simp)
   case s1 =>
    intro L vs x h1 h2 h3 h4 h5;have h50:=DJ h4 1 (by decide) h2;have hG:=(h5.1 h50).2.1;have c0:=cell1 (JS.out.bd hT (qB hG)).p;have HH:=ł h5;clear h3 h4 h5;unfold lI;simp only[zR];go_simp;exact HH.out.put h1 1 (by decide) h50 _ (Mv.refl _ _) (by simp) (λ_=>rfl) (by simp) (by simp)
   case s2 =>
    intro L vs x h1 h2 h3 h4 h5;have h50:=DJ h4 2 (by decide) h2;have hv1:vs 1 = .slice pa ps.length pc:=(h5.1 h50).2.2.2.1 (h3 1 (by simp));have hG:=(h5.1 h50).2.1;have HC:=ł (YT (.slice pa ps.length pc) ps x (fI (λ_=>rfl) (JS.out.bd hT (qB hG)).row) (by have:=CQ.out.1;omega));have HH:=ł h5;clear h3 h4 h5;unfold lI;simp only[zR,hv1];go_simp;refine(HC.out).mono ?_;rintro e y ⟨v,rfl,-,-,hg⟩;exact⟨_,rfl,HH.out.put h1 2 (by decide) h50 _ hg (by simp) (by simp) (by simp) (by simp)⟩
   case s3 =>
    intro L vs x h1 h2 h3 h4 h5;have h50:=DJ h4 3 (by decide) h2;have hG:=(h5.1 h50).2.1;obtain⟨⟨n0',n1⟩,n2,n3⟩:=aC (ai aF.out hG);have HH:=ł h5;clear h3 h4 h5;unfold lI;simp only[zR];go_simp;exact HH.out.put h1 3 (by decide) h50 _ (Mv.refl _ _) (by simp) (by simp) (λ_=>rfl) (by simp)
   case s4 =>
    intro L vs x h1 h2 h3 h4 h5;have h50:=DJ h4 4 (by decide) h2;have hv3:vs 3 = .agg #[.int .u8 k,.int .i64 n,.string s,.slice ka ls.length kc]:=(h5.1 h50).2.2.2.2.1 (h3 3 (by simp));have hG:=(h5.1 h50).2.1;have HC:=ł (KO (.mk k n s (.slice ka ls.length kc) ls) x CQ.out.2 (sW.out.at.later hG));simp only[ae.val]at HC;have HH:=ł h5;clear h3 h4 h5;unfold lI;simp only[zR,hv3];go_simp;refine(HC.out).mono ?_;rintro e y ⟨v,rfl,ht,ab4,hg⟩;exact⟨_,rfl,HH.out.put h1 4 (by decide) h50 _ hg (by simp) (by simp) (by simp) (λ_=>⟨v,by rw[ab4.fix],ht⟩)⟩
   case s5 =>
    intro L vs x h1 h2 h3 h4 h5;have hG:=(h5.1 h2).2.1;have hv0:=(h5.1 h2).2.2.1 (h3 0 (by simp));obtain⟨y',hv4,nQ⟩:=(h5.1 h2).2.2.2.2.2 (h3 4 (by simp));obtain⟨fn,tmps,assign,body,hy,hR⟩:=hY pre (vs 2,y') x (hJ _ _ _ HJ2.out (G7 hG)) (zM.out [(vs 2,y')] (by simp[came,nQ,jF,ae.t]));have HR:=ł (Ql (m:=0) hR);have HH:=ł h5;clear h3 h4 h5 hR;unfold lI;simp only[zR,hv0,hv4];go_simp;refine(HR.out).mono ?_;rintro e y (⟨rfl,BB,hb3⟩|⟨rfl,hx3⟩)
    · exact⟨_,rfl,HH.out.TU h1 h2 _ ⟨_,nQ,.inl ⟨rfl,BB,uU (qB hG) hb3⟩⟩⟩
    · exact⟨_,rfl,HH.out.TU h1 h2 _ ⟨_,nQ,.inr ⟨rfl,hx3⟩⟩⟩
   case s6 =>
    intro L vs x h1 h2 h3 h4 h5;have mr:=h3 5 (by simp);obtain⟨b,hv5⟩:∃ b,vs 5 = .bool b:=by
     obtain⟨z,-,h|h⟩:=h5.2.1 mr
     · exact⟨_,h.1⟩
     · exact⟨_,h.1⟩
    have HH:=ł h5;clear h3 h4 h5;unfold lI;simp only[zR,hv5];go_simp;exact HH.out.ab3 h1 mr b hv5
  case done =>
  intro L vs w3 hall hI;obtain⟨b,hv5,hv6⟩:=hI.2.2 (hall 6 (by simp));obtain⟨z,zN,hz⟩:=hI.2.1 (hall 5 (by simp));simp only[List.length_cons,List.length_nil,Nat.zero_add,Nat.reduceAdd];rw[show List.range 7=[0,1,2,3,4,5,6]from rfl];simp only[zR,hv5,hv6];rcases hz with⟨e5,BB,hb3⟩|⟨e5,hx3⟩
  · rw[hv5]at e5;simp only[Value.bool.injEq]at e5;subst e5;have HJ3:=ł BB;have HB3:=ł hb3;have TV:=ł (hb3.cells aF.out hT.node);have HV3:=ł (JS.out.bd hT hb3);clear hI hall BB hb3;generalize vs 0=v0 at *;generalize vs 1=v1 at *;generalize vs 2=v2 at *;generalize vs 3=v3 at *;generalize vs 4=v4 at *;clear hv5 hv6 vs;obtain⟨⟨d0,d1⟩,d2,d3⟩:=aC TV.out;have hlb:=lt_of_block TV.out;simp only[Bool.not_true];go_wp2_with fail;clear d0 d1 d2 d3 hlb
    go_loopw [18] (λt wr=>∃ (j:Nat) (ys:List (Value × ae)) (path':Value),t = .int .i64 j/\j<=ls.length/\came ys=ae.t (.mk k n s (.slice ka ls.length kc) ls) :: lM ((ae.ts ls).take j)/\J (pre ++ ys) wr/\qK n0 l Y P V wr path' ps/\kI (wH Ts) w2 wr) (λt _=>ls.length - (intOf t).toNat)
    case atStart=>exact⟨0,[z],_,rfl,Nat.zero_le _,by simp[came,zN,lM],HJ3.out,HV3.out,HB3.out.ts2⟩
    obtain⟨j,ys,path',rfl,hj,SX,vY,hv4,hb4⟩:=hrel;have V7:=ł vY;have OG:=ł hv4;have wD:=ł hb4;have HCM:=ł SX;clear SX vY hb4;by_cases hlt:j<ls.length
    · obtain⟨kb,ko,y9,bU,-,-⟩:=sW.out.at.row.2.2.2.1.at (show 0<ls.length by omega);simp only[Value.slice.injEq,true_and]at bU;obtain⟨rfl,rfl⟩:=bU;obtain⟨pb,qc,Bl⟩:=gF hv4.row;subst Bl;have OH:dG (λ_=>True) wr (.mk k n s (.slice (some ⟨kb,ko,none⟩) ls.length kc) ls):=sW.out.bd (Ts:=wH Ts) (by simp[wH,hT.node]) wD.out;have fT:=fe OH.at j hlt;have HKN:=ł (show dG (λ_=>True) wr ls[j]from by cases OH with|mk _ _ _ _ _ each=>exact each _ (List.getElem_mem hlt));have HC:=ł (iB.out j hlt);have hsz2:=jq.out j hlt;have CV:=ł (show came ys ++ jF ls[j].t=ae.t (.mk k n s (.slice (some ⟨kb,ko,none⟩) ls.length kc) ls) :: lM ((ae.ts ls).take (j+1))from by
       rw[HCM.out,Qf _ j (by rw[ae.cz];exact hlt),ae.gW ls j hlt];rfl)
      have bB:=ł (show came ys ++ jF ls[j].t <+: jF (ae.t (.mk k n s (.slice (some ⟨kb,ko,none⟩) ls.length kc) ls))from by
       have:=Xz (ae.ts ls) j (by rw[ae.cz];exact hlt);rw[ae.gW ls j hlt]at this;rw[HCM.out]
       simpa[ae.t,jF]using this)
      have JU:=ł (λ(zs:List (Value × ae)) (hz:came zs <+: jF ls[j].t)=>show Sp (pre ++ ys ++ zs)from by
       rw[List.append_assoc];refine zM.out (ys ++ zs) ?_;have e:came (ys ++ zs)=came ys ++ came zs:=by simp[came]
       rw[e];exact((List.prefix_append_right_inj _).2 hz).trans bB.out)
      have BH:=ł (show(ps ++ [(j:Int)]).length+aI ls[j].t<=900000 from by simp;omega);clear hv4 OH;generalize ls[j]=y at *;obtain⟨yk,yn,ys',yv,yl⟩:=y;obtain⟨ya,yc,rfl,-,-⟩:=fT.at_.form;obtain⟨⟨d0,d1⟩,d2,d3⟩:=fT.four;simp only[ae.val]at HC;have hbl:kb<wr.heap.size:=World.block_lt_of_cell? wr _ d0;have CW:=ł (heap_alloc_new wr (.cells #[.int .u8 yk,.int .i64 yn,.string ys',.slice ya yl.length yc] 24));have hga:Grow wr (wr.alloc (.cells #[.int .u8 yk,.int .i64 yn,.string ys',.slice ya yl.length yc] 24)):=(Mv.refl _ _).alloc _;have hgb:Grow wr ((wr.alloc (.cells #[.int .u8 yk,.int .i64 yn,.string ys',.slice ya yl.length yc] 24)).alloc (.cells #[.int .i64 j] 3)):=hga.alloc _;have hva:=OG.out.bd hT (qB hga);have hvb:=OG.out.bd hT (qB hgb);have hib:=heap_alloc_new (wr.alloc (.cells #[.int .u8 yk,.int .i64 yn,.string ys',.slice ya yl.length yc] 24)) (.cells #[.int .i64 j] 3);rw[World.size_alloc]at hib;have hn0:n0<=wr.heap.size:=by have:=HS2.out;have:=wD.out.size;omega
      obtain⟨a',c',wc,⟨hok,hv,hw⟩,hrow2,bz,-⟩:=aav _ j ps n0 _ _ hvb.row (by have:=hgb.size;omega) CQ.out.1 hib;have c0:=cell1 hva.p;have hlp:=lt_of_block hva.p;have hpc:wc.heap[P]? = some (.cells #[.slice pb ps.length qc] 84 (0,0)):=by
       rw[bz.block P (lt_of_block hvb.p) (λe=>dK hvb.row hvb.p (by decide) e)];exact hvb.p
      obtain⟨hs1,hs2⟩:=set1 hpc (.slice a' (ps.length+1) c');have zc:=aG hpc;have cpc:=cell1 hpc;have hlc:=lt_of_block hpc;have hmd:Mv (λb=>b=P\/(Value.slice pb ps.length qc).ownBlock=some b) _ (wc.setCell ⟨P,0,none⟩ (.slice a' (ps.length+1) c')):=(bz.mono (λb e => .inl (.inr e))).trans hs2 (λb e => .inl (.inl e));have hrd:=bg hrow2 hs2 (λg hg e=>by subst e;exact dK hrow2 hpc (by decide) hg);have OI:=ł (show qK n0 l Y P V (wc.setCell ⟨P,0,none⟩ (.slice a' (ps.length+1) c')) (.slice a' (ps.length+1) c') (ps ++ [(j:Int)])from hvb.step hmd hs1 hrd);obtain⟨hi1,hi2⟩:=RS hT hmd (λb hb=>hvb.own hb);have HJD:=ł (hJ _ _ _ (hJ _ _ _ V7.out (G7 hgb)) hi1);have nP:=ł (uU wD.out (uU (qB hgb) hi2));have uL:=ł (HKN.out.bd (Ts:=wH Ts) (by simp[wH,hT.node]) (uU (qB hgb) hi2));have HSD:=ł (show n0<=(wc.setCell ⟨P,0,none⟩ (.slice a' (ps.length+1) c')).heap.size from by have:=hmd.size;have:=hgb.size;omega);have OJ:(wc.setCell ⟨P,0,none⟩ (.slice a' (ps.length+1) c')).heap[wr.heap.size]? = some (.cells #[.int .u8 yk,.int .i64 yn,.string ys',.slice ya yl.length yc] 24 (0,0)):=by
       have h1:=aS CW.out (.cells #[.int .i64 (j:Int)] 3);have h2:(wc.setCell ⟨P,0,none⟩ (.slice a' (ps.length+1) c')).heap[wr.heap.size]? = _:=hmd.block wr.heap.size (lt_of_block h1) (λe=>by
        obtain⟨-,cs,t,zz,hc,ht⟩:=hvb.own e;rw[h1]at hc;simp only[Option.some.injEq,Obj.cells.injEq]at hc;obtain⟨-,rfl,-⟩:=hc;rcases ht with ht|ht <;> exact absurd ht (by decide))
       rw[h2];exact h1
      obtain⟨⟨y0,y1⟩,y2,y3⟩:=aC OJ;have lV:=lt_of_block OJ;have v0':=cell1 OI.out.v;have hlv:=lt_of_block OI.out.v;clear hva hvb hib hmd hrd hi1 hi2 hga hgb OJ bz hrow2 hs1 hs2 fT hpc;generalize hwd:wc.setCell ⟨P,0,none⟩ (.slice a' (ps.length+1) c')=wd at *;go_wp2_with fail;refine(HC.out wd (pre ++ ys) _ (ps ++ [(j:Int)]) BH.out OI.out uL.out HJD.out HSD.out JU.out).mono ?_;clear hok hv hw c0 hlp zc cpc hlc hwd y0 y1 y2 y3 lV v0' hlv d0 d1 d2 d3 hbl HC CW;rintro e w5 (⟨rfl,aeH,CZ,V8,JO,hv5,hb5⟩|⟨rfl,CZ,zO,hx5⟩)
      · obtain⟨p5,q5,zO⟩:=gF hv5.row;have hl5:(ps ++ [(j:Int)]).length=ps.length+1:=by simp
        rw[hl5]at zO;subst zO;have c5:=cell1 hv5.p;have hl:=lt_of_block hv5.p;have z5:=aG hv5.p;have hlen:=CQ.out.1;have hcap:ps.length+1<=q5:=by
         rcases hv5.row.2 with⟨e,-⟩|⟨g,cap,cur,e,-,-,h,-⟩
         · simp at e
         · simp only[Value.slice.injEq]at e;rw[hl5]at h;omega
        have i1:IntKind.i64.wrap (((ps.length+1:Nat):Int) - 1)=(ps.length:Int):=by rw[IntWalk.i64_in _ (by omega)];omega
        obtain⟨hs1,hs2⟩:=set1 hv5.p (.slice p5 ps.length q5);have hmd:Mv (λb=>b=P\/(Value.slice p5 (ps.length+1) q5).ownBlock=some b) w5 (w5.setCell ⟨P,0,none⟩ (.slice p5 ps.length q5)):=hs2.mono (λb e => .inl (.inl e));have OL:=aau (n:=1) (f:=zi) (l:=ps) (x:=(j:Int)) (λ_=>rfl) hv5.row;have hrd:=bg OL hs2 (λg hg e=>by subst e;exact dK OL hv5.p (by decide) hg);have HV6:=ł (hv5.step hmd hs1 hrd);obtain⟨hi1,hi2⟩:=RS hT hmd (λb hb=>hv5.own hb);have HJ6:=ł (hJ _ _ _ JO hi1);have il:=ł (uU nP.out (uU hb5 hi2));have BA:=ł ((show came (ys ++ CZ)=came ys ++ came CZ from by simp[came]).trans (by rw[V8,CV.out]));clear hmd OL hrd hi1 hi2 hs1 hs2 hv5 JO hb5 V8 CV;go_wp2_with fail;refine⟨⟨j+1,ys ++ CZ,_,by simp,by omega,BA.out,by have:=HJ6.out;rwa[List.append_assoc]at this,HV6.out,il.out⟩,by simp[intOf] <;> omega⟩
      · have HX5:=ł hx5;have BA:=ł (show came (ys ++ CZ) <+: _ from by
         obtain⟨r,hr⟩:=zO;refine List.IsPrefix.trans ?_ bB.out;exact⟨r,by rw[← hr];simp[came]⟩)
        clear hx5 zO;go_wp2_with fail;go_ret;exact .inr ⟨rfl,ys ++ CZ,BA.out,by have:=HX5.out;rwa[List.append_assoc]at this⟩
    · obtain rfl:j=ls.length:=by omega
      have BA:=ł (show came ys=jF (ae.t (.mk k n s (.slice ka ls.length kc) ls))from by
       rw[HCM.out,List.take_of_length_le (by rw[ae.cz];exact Nat.le_refl _)];simp[ae.t,jF])
      go_wp2_with fail;go_ret;exact .inl ⟨rfl,_,ys,BA.out,V7.out,OG.out,uU (qB bf.out) wD.out⟩
  · rw[hv5]at e5;simp only[Value.bool.injEq]at e5;subst e5;have NI:=ł hx3;clear hI hall hx3;simp only[Bool.not_false];go_wp2_with fail;go_ret;exact .inr ⟨rfl,[z],by simp[came,zN,jF,ae.t],NI.out⟩
theorem _T (Ts:TypeId->Bool) (hT:DW Ts) (R:Nat) (x:ae) (w:World) (hb:w.heap[R]? = some (.cells x.cells.toArray 24 (0,0))) (hno:dG (λ_=>True) w x) (hs:aI x.t<=900000) :
 Rm Tryz.prog Ts 66 #[.pointer (some ⟨R,0,none⟩)] (λz:Value × ae=>#[z.1,z.2.fix.val]) (λxs=>came xs=jF x.t) (λpre=>came pre <+: jF x.t) w:=by
 intro l J Jx W hW hJ hJx hY h0;obtain⟨k,n,s,kv,ls⟩:=x;obtain⟨ka,kc,rfl,-,-⟩:=hno.at.form;have hga:Grow W (W.alloc (.cells #[.func (.yield l) #[] #[]] 125)):=(Mv.refl _ _).alloc _;have hgb:=hga.alloc (.cells #[.slice none 0 0] 84);have hgc:=hgb.alloc (.cells #[.func (.func 67) #[] #[.pointer (some ⟨W.heap.size,0,none⟩),.pointer (some ⟨W.heap.size+1,0,none⟩),.pointer (some ⟨W.heap.size+1+1,0,none⟩)]] 44);have HV:=ł (show qK W.heap.size l W.heap.size (W.heap.size+1) (W.heap.size+1+1) _ (.slice none 0 0) []from
  ⟨aS (aS (heap_alloc_new W _) _) (.cells #[.func (.func 67) #[] #[.pointer (some ⟨W.heap.size,0,none⟩),.pointer (some ⟨W.heap.size+1,0,none⟩),.pointer (some ⟨W.heap.size+1+1,0,none⟩)]] 44),
   aS (by have:=heap_alloc_new (W.alloc (.cells #[.func (.yield l) #[] #[]] 125)) (.cells #[.slice none 0 0] 84);rwa[World.size_alloc]at this) _,
   by have:=heap_alloc_new ((W.alloc (.cells #[.func (.yield l) #[] #[]] 125)).alloc (.cells #[.slice none 0 0] 84)) (.cells #[.func (.func 67) #[] #[.pointer (some ⟨W.heap.size,0,none⟩),.pointer (some ⟨W.heap.size+1,0,none⟩),.pointer (some ⟨W.heap.size+1+1,0,none⟩)]] 44);rwa[World.size_alloc,World.size_alloc]at this,
   by omega,World.ownsRow_nil _ _ _ _⟩)
 have HN:=ł ((hno.bd hT.node (qB (Ts:=Ts) hW)).bd hT.node (qB (Ts:=Ts) hgc));have HJ:=ł (hJ _ _ _ h0 (G7 hgc));have HG:=ł hgc;have hrb:=ai (ai hb hW) hgc;have HC:=ł (ZE Ts hT (λpre=>came pre <+: jF (ae.t (.mk k n s (.slice ka ls.length kc) ls))) J Jx W.heap.size l W.heap.size (W.heap.size+1) (W.heap.size+1+1) hJ hY _ _ (Nat.le_refl _) _ [] _ [] (by simpa using hs) HV.out HN.out HJ.out hgc.size (λzs hz=>hz));obtain⟨⟨d0,d1⟩,d2,d3⟩:=aC hrb;have hlr:=lt_of_block (ai hb hW);have Ao:=lt_of_block hrb;simp only[ae.val]at HC;clear hno hga hgb hgc hb h0 hrb hs HV HN HJ
 show Calls Tryz.prog 66 #[.func (.yield l) #[] #[],.pointer (some ⟨R,0,none⟩)] W _
 go_enter Tryz.func66,Tryz.ntmps66
 go_wp2_with fail;refine HC.out.mono ?_;clear d0 d1 d2 d3 hlr Ao HC;rintro e w5 (⟨rfl,path',ys,hc,hj,-,-⟩|⟨rfl,ys,hp,hx⟩)
 · have HH:=ł hj;clear hj;go_wp2_with fail
   go_end0
   exact⟨⟨_,rfl⟩,.inl ⟨ys,hc,HH.out⟩⟩
 · have HH:=ł hx;clear hx;go_wp2_with fail
   go_end0
   exact⟨⟨_,rfl⟩,.inr ⟨ys,hp,HH.out⟩⟩
theorem _U (x:ae) (w:World) (hx:aR w x) (hs:aI x.t<=900000) :
 Calls Tryz.prog 36 #[x.val] w λe w'=>∃ (R:Nat) (y:ae),e = .returned (.func (.func 66) #[] #[.pointer (some ⟨R,0,none⟩)])/\w'.heap[R]? = some (.cells y.cells.toArray 24 (0,0))/\dG (λ_=>True) w' y/\y.t=x.t/\Grow w w':=by
 obtain⟨k,n,s,kv,l⟩:=x;obtain⟨ka,kc,rfl,-,-⟩:=hx.form;have hga:Grow w (w.alloc (.cells #[.int .u8 k,.int .i64 n,.string s,.slice ka l.length kc] 24)):=(Mv.refl _ _).alloc _;have HC:=ł (KO _ _ hs (hx.later hga));have HG:=ł hga;obtain⟨⟨d0,d1⟩,d2,d3⟩:=aC (heap_alloc_new w (.cells #[.int .u8 k,.int .i64 n,.string s,.slice ka l.length kc] 24));simp only[ae.val]at HC;clear hx hga hs;simp only[ae.val]
 go_enter Tryz.func36,Tryz.ntmps36
 go_wp2_with fail;refine HC.out.mono ?_;clear d0 d1 d2 d3;rintro e w5 ⟨y,rfl,nQ,hno,hg⟩;obtain⟨yk,yn,ys,yv,yl⟩:=y;obtain⟨ya,yc,rfl,-,-⟩:=hno.at.form;have hgb:Grow w5 (w5.alloc (.cells #[.int .u8 yk,.int .i64 yn,.string ys,.slice ya yl.length yc] 24)):=(Mv.refl _ _).alloc _;have HN:=ł ((hno.weak (λ_ _ _=>trivial)).stay hgb (λ_ _ _ _ _ e=>e));have HB:=ł (heap_alloc_new w5 (.cells #[.int .u8 yk,.int .i64 yn,.string ys,.slice ya yl.length yc] 24));have bS:=ł (gtr (gtr HG.out hg) hgb);have HT:=ł nQ;clear hno hg hgb HC nQ;simp only[ae.val];go_wp2_with fail;go_ret;exact⟨_,.mk yk yn ys (.slice ya yl.length yc) yl,rfl,HB.out,HN.out,HT.out,bS.out⟩
theorem Qg {κ:Type} [BEq κ] [LawfulBEq κ] (k x:κ) (v:Value):∀ (l:List (κ × Value)) (i:Nat),(gJ x (jl k v l) i).map (·.2)=if x == k then some v else(gJ x l i).map (·.2)
 | [],i=>by
  simp only[jl,gJ];split <;> simp
 |(a,y) :: l,i=>by
  simp only[jl];by_cases hk:k == a
  · have hka:k=a:=by simpa using hk
    subst hka;simp only[beq_self_eq_true,if_true,gJ];split <;> simp
  · have hka:¬ k=a:=by simpa using hk
    simp only[hk,Bool.false_eq_true,if_false,gJ];by_cases hx:x == a
    · have hxa:x=a:=by simpa using hx
      subst hxa;have:¬ x=k:=λe=>hka e.symm;simp[this]
    · simp only[hx,Bool.false_eq_true,if_false];exact Qg k x v l (i+1)
def Aj (l:List bu):List (ByteArray × Value):=l.foldl (λd v=>jl v.name (.bool true) d) []
theorem KR (l:List bu) (s:ByteArray):(sD (Aj l) s).getD (.bool false) = .bool (l.any λv=>v.name == s):=by
 have h:∀ (l:List bu) (d:List (ByteArray × Value)),(sD (l.foldl (λd v=>jl v.name (.bool true) d) d) s).getD (.bool false)=if(l.any λv=>v.name == s)then .bool true else(sD d s).getD (.bool false):=by
  intro l
  induction l with
  |nil=>intro d;simp
  |cons v l ih =>
   intro d;rw[List.foldl_cons,ih,List.any_cons];by_cases hl:l.any λv=>v.name == s
   · simp[hl]
   · simp only[hl,Bool.or_false,if_false,Bool.false_eq_true];unfold sD;rw[Qg];by_cases hv:s=v.name
     · subst hv;simp
     · have hv':¬ v.name=s:=λe=>hv e.symm;simp[hv,hv']
 rw[Aj,h l []];cases l.any λv=>v.name == s <;> simp[sD,gJ]
theorem YU (l:List bu) (j:Nat) (h:j<l.length):Aj (l.take (j+1))=jl l[j].name (.bool true) (Aj (l.take j)):=by
 rw[List.take_succ_eq_append_getElem h,Aj,List.foldl_append];rfl
theorem X6 (l:List bu) (j:Nat) (h:j<l.length):frameC (l.take (j+1))=lH (frameC (l.take j)) l[j]:=by
 rw[List.take_succ_eq_append_getElem h,frameC,List.foldl_append];rfl
theorem _V (l:List bu) (j:Nat) (h:j<l.length):vC ((l.take j).map bu.name) (l.drop j)=(((l.take j).any λv=>v.name == l[j].name) || vC ((l.take (j+1)).map bu.name) (l.drop (j+1))):=by
 rw[List.drop_eq_getElem_cons h,vC,List.take_succ_eq_append_getElem h,List.map_append,List.any_map];rfl
def addNode (f:ax) (n:Tree):ax :=
 if n.kind=54 then(if(au f n.name 1).isSome then f else lH f ⟨n.name,1,0⟩)
 else if n.kind=55 then(if(au f n.name 3).isSome then f else lH f ⟨n.name,3,0⟩)else f
def clash (vars:List bu) (n:Tree):Bool:=(n.kind == 54 || n.kind == 55) && vars.any (λv=>v.name == n.name)
def zP (vars:List bu) (body:Tree):ax:=(jF body).foldl addNode (frameC vars)
def nH (vars:List bu) (body:Tree):Int:=if jY vars && bF body then(if vC [] vars then 22 else if(jF body).any (clash vars)then 22 else 0)else 3
def OfG (w:World) (l:List bu) (b:Tree) (e:Ending) (w':World):Prop :=
 ∃ sv,e = .returned (.tuple #[.agg #[sv,.int .i64 (if nH l b=0 then zP l b else iK).cells,.int .i64 (if nH l b=0 then zP l b else iK).stacks],.int .i64 (nH l b)])/\fE w' sv (if nH l b=0 then zP l b else iK)/\Grow w w'
theorem pX.more {m m':Nat} {f:ax} (h:pX m f) (hm:m<=m'):pX m' f:=by
 obtain⟨h1,h2,h3⟩:=h;exact⟨by omega,by omega,λs hs=>by have:=h3 s hs;omega⟩
theorem YV (f:ax) (n:Tree) (m:Nat) (h:pX m f/\f.slots.length<=m):pX (m+1) (addNode f n)/\(addNode f n).slots.length<=m+1:=by
 have hl:∀ v,(lH f v).slots.length=f.slots.length+1:=λv=>by unfold lH;split;simp;split <;> simp
 unfold addNode;split
 · split
   · exact⟨h.1.more (by omega),by omega⟩
   · exact⟨Kr f _ m h.1 rfl,by rw[hl];omega⟩
 · split
   · split
     · exact⟨h.1.more (by omega),by omega⟩
     · exact⟨Kr f _ m h.1 rfl,by rw[hl];omega⟩
   · exact⟨h.1.more (by omega),by omega⟩
theorem PR:∀ (l:List Tree) (f:ax) (m:Nat),pX m f/\f.slots.length<=m->pX (m+l.length) (l.foldl addNode f)/\(l.foldl addNode f).slots.length<=m+l.length
 | [],f,m,h=>h
 |n :: l,f,m,h=>by
  have:=PR l (addNode f n) (m+1) (YV f n m h);rw[show m+(n :: l).length=m+1+l.length from by rw[List.length_cons];omega];exact this
theorem Po (l:List bu) (j:Nat) (hv:jY l=true):pX 32 (frameC (l.take j))/\(frameC (l.take j)).slots.length<=32:=by
 simp only[jY,Bool.and_eq_true,decide_eq_true_eq]at hv;have h2:(l.take j).all bu.okB=true:=List.all_eq_true.2 λv hvm=>List.all_eq_true.1 hv.2 v (List.mem_of_mem_take hvm);have h3:(l.take j).length<=32:=by rw[List.length_take];omega
 refine⟨(Ki (l.take j) iK 0 ⟨by simp[iK],by simp[iK],by simp[iK]⟩ h2).more (by omega),?_⟩;rw[Pv];exact h3
mutual
theorem Le:∀ (t:Tree),(jF t).length=aI t
 |.mk k n s l=>by
  have:=QJ l;rw[jF,aI,List.length_cons];omega
theorem QJ:∀ (l:List Tree),(lM l).length=cu l
 | []=>by simp[lM,cu]
 |t :: l=>by
  have h1:=Le t;have h2:=QJ l;rw[lM,cu,List.length_append];omega
end
def fB (vars:List bu) (ns:List Tree):ax:=ns.foldl addNode (frameC vars)
theorem KS (vars:List bu) (ns:List Tree) (n:Tree):fB vars (ns ++ [n])=addNode (fB vars ns) n:=by simp[fB]
theorem RU (vars:List bu) (ns:List Tree) (hv:jY vars=true):pX (32+ns.length) (fB vars ns)/\(fB vars ns).slots.length<=32+ns.length:=by
 have:=Po vars vars.length hv;rw[List.take_length]at this;exact PR ns _ 32 this
theorem yD (ys:List (Value × ae)) (z:Value × ae):came (ys ++ [z])=came ys ++ [z.2.t]:=by simp[came]
end Go.Proofs.YtnobahchcongnaaGreatDoor
