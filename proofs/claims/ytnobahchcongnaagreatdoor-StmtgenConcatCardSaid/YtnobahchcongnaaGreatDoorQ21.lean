import Derived.Test.YtnobahchcongnaaGreatDoorQ20
set_option linter.unusedSimpArgs false
set_option linter.unusedVariables false
set_option maxRecDepth 100000
set_option maxHeartbeats 25600000
namespace Go.Proofs.YtnobahchcongnaaGreatDoor
open Go.RowKit Go.Instr
theorem tY (w:World) (G:Nat) (sv pv:Value) (f:az) (procs:List aj) (hg:gm w G sv pv f procs) (s:ByteArray) (k:Int):Calls Tryz.prog 82 #[.pointer (some ⟨G,0,none⟩),.string s,.int .u8 k] w fun e w'=>e = .returned (.int .i64 (ak f s k))∧Grow w w':=by
 obtain ⟨fa,fc,rfl,hfc,hfl⟩:=hg.fr.row.form;obtain ⟨pa,pc,rfl,-,-⟩:=hg.pr.row.form;have HC:=ł (nX (.slice fa f.slots.length fc) f s k w hg.fr);obtain ⟨⟨q0,q1,q2⟩,q3,q4⟩:=bR hg.blk;have hl:=lt_of_block hg.blk;have HA:=ł (show ak f s k=((au f s k).getD noSlot).at' from rfl);clear hg
 go_enter Tryz.func82,Tryz.ntmps82
 go_wp2_with fail;refine HC.out.mono ?_;rintro e w1 ⟨rfl,hg1⟩;have HG:=ł hg1;clear hg1 q0 q1 q2 q3 q4 hl;generalize (au f s k).getD noSlot=sl at *;obtain ⟨s0,s1,s2,s3⟩:=sl;go_wp2_with fail;go_ret;exact ⟨gT HA.out.symm,HG.out.alloc _⟩
theorem gQ (v:Value) (l:List Ins) (w:World) (h:ax 5 Ins.cells w v l):Calls Tryz.prog 101 #[v] w (bN w (ah l)):=by
 obtain ⟨va,vc,rfl,CX,hvl⟩:=h.form;have HP:=ł (show ay (w.alloc (.cells #[.slice va l.length vc,.slice none 0 0] 34)) (.agg #[.slice va l.length vc,.slice none 0 0]) (ah l) from ay.mk (h.later ((Mv.refl _ w).alloc _)) (ax.nil _ _ _));clear h
 go_enter Tryz.func101,Tryz.ntmps101
 go_wp2_with fail;exact bodyPost_ret (v := .agg #[.slice va l.length vc,.slice none 0 0]) (by simp [results,Tryz.results101,go_sem]) rfl ⟨_,rfl,HP.out,(Mv.refl _ _).alloc _⟩
theorem El (w:World) (G:Nat) (sv pv:Value) (f:az) (procs:List aj) (hg:gm w G sv pv f procs) (x:ae) (r i:Int) (hx:aV w x):Calls Tryz.prog 102 #[.pointer (some ⟨G,0,none⟩),x.val,.int .i64 r,.int .i64 i] w fun e w'=>e = .returned (eF f x.t r i).val∧Grow w w':=by
 obtain ⟨fa,fc,rfl,hfc,hfl⟩:=hg.fr.row.form;obtain ⟨pa,pc,rfl,-,-⟩:=hg.pr.row.form;obtain ⟨k,n,s,kv,l⟩:=x;obtain ⟨ka,kc,rfl,-,-⟩:=hx.form;have HP:=ł (show (eF f (ae.t (.mk k n s (.slice ka l.length kc) l)) r i)=⟨11,r,i,((au f s 2).getD noSlot).at',((au f s 2).getD noSlot).len⟩ from rfl);have aA:=ł hg;obtain ⟨aL,bC,HG2⟩:=a2 w (.cells #[.int .u8 k,.int .i64 n,.string s,.slice ka l.length kc] 24) (.cells #[.int .u8 0,.int .i64 0,.int .i64 0,.int .i64 0,.int .i64 0] 57);clear hg hx;simp only [ae.val]
 go_enter Tryz.func102,Tryz.ntmps102
 go_wp2_with fail;generalize (w.alloc (.cells #[.int .u8 k,.int .i64 n,.string s,.slice ka l.length kc] 24)).alloc (.cells #[.int .u8 0,.int .i64 0,.int .i64 0,.int .i64 0,.int .i64 0] 57)=w2 at *;have HK:=ł (fun (y:World) (hy:Grow w2 y)=>And.intro (aA.out.later (gtr HG2.out hy)) (ai aL.out hy));refine wg 29 [some 12,some 13,some 14,some 15,some 16,some 17,some 18,some 11,some 19,some 20,some 9,none,some 10] [[],[0],[1],[2],[],[4],[3,5],[6],[7],[7],[],[10,8],[9]] [] [.c (.pointer (some ⟨G,0,none⟩)),.c (.pointer (some ⟨G,0,none⟩)),.c (.pointer (some ⟨G,0,none⟩)),.c (.agg #[.slice fa f.slots.length fc,.int .i64 f.cells,.int .i64 f.stacks]),.c (.pointer (some ⟨w.heap.size,2,none⟩)),.c (.string s),.c (.tuple #[((au f s 2).getD noSlot).val,.bool (au f s 2).isSome]),.c (.tuple #[((au f s 2).getD noSlot).val,.bool (au f s 2).isSome]),.c (((au f s 2).getD noSlot).val),.c (.bool (au f s 2).isSome),.al 11 8 #[.string ⟨#[]⟩,.int .u8 0,.int .i64 0,.int .i64 0] 95,.st 10,.c (.bool (au f s 2).isSome)] trivial (dJ rfl) ?steps ?done
 case steps =>
  refine ⟨?s0,?s1,?s2,?s3,?s4,?s5,?s6,?s7,?s8,?s9,?s10,?s11,?s12,trivial⟩
  case s0 | s4 | s7 | s8 | s9 | s12 =>
   refine oo (fun vs x hP => ?_);simp only [zS];go_simp;exact gc
  case s1 | s2 | s3 =>
   refine ok HK (fun vs x hG HX hP => ?_);obtain ⟨⟨q0,q1,q2⟩,q3,q4⟩:=bR HX.out.1.blk;simp only [zS];go_simp;exact gc
  case s5 =>
   refine ok HK (fun vs x hG HX hP => ?_);obtain ⟨⟨n0,n1⟩,n2,n3⟩:=aF HX.out.2;simp only [zS];go_simp;exact gc
  case s6 =>
   refine ok HK (fun vs x hG HX hP => ?_);have HC:=ł (nX (.slice fa f.slots.length fc) f s 2 x HX.out.1.fr);simp only [zS];go_simp;refine (HC.out).mono ?_;rintro e y ⟨rfl,hg⟩;exact ⟨_,rfl,bz hg rfl⟩
  case s10 =>
   refine oz (fun vs x => ?_);simp only [zS];go_simp;exact ⟨rfl,rfl⟩
  case s11 =>
   refine os (fun vs x g hg hb hv => ?_);have h8:vs 8=_:=hv;obtain ⟨c0,c1,c2,c3⟩:=dm hb;have zt:=aJ hb;simp only [zS,hg,h8];go_simp;exact qU hb _ _ _ _
 case done =>
 intro vs wx hE;have hG:=hE.grow;obtain ⟨g10,y9,l10,m10,b10⟩:=hE.box 10;simp only [zS] at b10;simp only [zS,Nat.reduceAdd,y9];generalize hsl:((au f s 2).getD noSlot)=sl at *;have kG:=ł hsl;clear hsl;have HB:=ł (show wx.heap[g10]? = some (.cells #[.string sl.name,.int .u8 sl.kind,.int .i64 sl.len,.int .i64 sl.at'] 95 (0,0)) from b10);have KM:=ł (ai bC.out hG);have lZ:=ł (gtr HG2.out hG);clear hE hG HK aL bC b10;obtain ⟨z0,z1,z2,z3⟩:=dm HB.out;have vZ:=lt_of_block HB.out;go_wp2_with fail;refine (G6 11 r i sl.at' sl.len wx.heap.size _ _ (heap_alloc_new wx _)).mono ?_;rintro e w3 ⟨rfl,hg3⟩;simp only;have hgr:=gtr ((Mv.refl _ wx).alloc _) hg3;obtain ⟨hs,hm⟩:=jQ (ai KM.out hgr) (.int .u8 11) (.int .i64 r) (.int .i64 i) (.int .i64 sl.at') (.int .i64 sl.len);obtain ⟨⟨r0,r1,r2⟩,r3,r4⟩:=bR (ai KM.out hgr);have rt:=aJ (ai KM.out hgr);have HS:=ł hs;have aM:=ł (show Grow w _ from Mv.trans (gtr lZ.out hgr) hm (fun b e => .inr (by omega)));clear hs hm hg3 hgr z0 z1 z2 z3 vZ;go_wp2_with fail;obtain ⟨⟨t0,t1,t2⟩,t3,t4⟩:=bR HS.out;refine bodyPost_ret (v := .agg #[.int .u8 11,.int .i64 r,.int .i64 i,.int .i64 sl.at',.int .i64 sl.len]) (by simp [results,Tryz.results102,go_sem,t0,t1,t2,t3,t4]) rfl ⟨by rw [HP.out],aM.out⟩
theorem Oj (f:az) (e:Tree) (use:aC):aH f e use=ah (jP (dC f e) (bU use.code ((dC f e).length+1))):=rfl
theorem Em (w:World) (G:Nat) (sv pv:Value) (f:az) (procs:List aj) (hg:gm w G sv pv f procs) (x:ae) (uv:Value) (use:aC) (hx:aV w x) (hu:ay w uv use) (he:aI x.t=true) (hs:bM f x.t=true) (hc0:0≤f.cells) (hc1:f.cells≤1000) (hd:gV x.t≤10000) (hlen:(dC f x.t).length≤200000) (jg:use.code.length≤200000) :
 Calls Tryz.prog 100 #[.pointer (some ⟨G,0,none⟩),x.val,uv] w (bN w (aH f x.t use)):=by
 obtain ⟨fa,fc,rfl,hfc,hfl⟩:=hg.fr.row.form;obtain ⟨pa,pc,rfl,-,-⟩:=hg.pr.row.form;obtain ⟨k,n,s,kv,l⟩:=x;obtain ⟨ka,kc,rfl,-,-⟩:=hx.form;obtain ⟨ua,uc,ra,rc,rfl,hr1,hr2⟩:=hu;obtain ⟨us,rs⟩:=use;simp only at hr1 hr2 jg ⊢;have HCM:=ł (fun (y:World) (hy:Grow w y)=>Mw (.mk k n s (.slice ka l.length kc) l) (.slice fa f.slots.length fc) f y (hg.fr.later hy) (hx.later hy) he hs hc0 hc1 hd (by omega));have rD:=ł (fun (y:World) (hy:Grow w y) (uv:Value) (us:List Ins) (hu:ax 5 Ins.cells y uv us) (jg:us.length≤300000)=>Nq (.mk k n s (.slice ka l.length kc) l) (.slice fa f.slots.length fc) uv f us y (hg.fr.later hy) (hx.later hy) hu he hs hc0 hc1 hd (by omega) jg);have HW:=ł (Oj f (ae.t (.mk k n s (.slice ka l.length kc) l)) ⟨us,rs⟩);have iZ:=ł hr1;have aA:=ł hg;have aL:=ł (show (((w.alloc (.cells #[.int .u8 k,.int .i64 n,.string s,.slice ka l.length kc] 24)).alloc (.cells #[.slice ua us.length uc,.slice ra rs.length rc] 34)).alloc (.cells #[.slice none 0 0,.slice none 0 0] 34)).heap[w.heap.size]? = some (.cells #[.int .u8 k,.int .i64 n,.string s,.slice ka l.length kc] 24 (0,0)) from aT (aT (heap_alloc_new w _) _) _);have uK:=ł (show (((w.alloc (.cells #[.int .u8 k,.int .i64 n,.string s,.slice ka l.length kc] 24)).alloc (.cells #[.slice ua us.length uc,.slice ra rs.length rc] 34)).alloc (.cells #[.slice none 0 0,.slice none 0 0] 34)).heap[w.heap.size+1]? = some (.cells #[.slice ua us.length uc,.slice ra rs.length rc] 34 (0,0)) from aT (by have:=heap_alloc_new (w.alloc (.cells #[.int .u8 k,.int .i64 n,.string s,.slice ka l.length kc] 24)) (.cells #[.slice ua us.length uc,.slice ra rs.length rc] 34);rwa [World.size_alloc] at this) _);have bC:=ł (show (((w.alloc (.cells #[.int .u8 k,.int .i64 n,.string s,.slice ka l.length kc] 24)).alloc (.cells #[.slice ua us.length uc,.slice ra rs.length rc] 34)).alloc (.cells #[.slice none 0 0,.slice none 0 0] 34)).heap[w.heap.size+1+1]? = some (.cells #[.slice none 0 0,.slice none 0 0] 34 (0,0)) from by have:=heap_alloc_new ((w.alloc (.cells #[.int .u8 k,.int .i64 n,.string s,.slice ka l.length kc] 24)).alloc (.cells #[.slice ua us.length uc,.slice ra rs.length rc] 34)) (.cells #[.slice none 0 0,.slice none 0 0] 34);rwa [World.size_alloc,World.size_alloc] at this);have aG:=ł (show Grow w (((w.alloc (.cells #[.int .u8 k,.int .i64 n,.string s,.slice ka l.length kc] 24)).alloc (.cells #[.slice ua us.length uc,.slice ra rs.length rc] 34)).alloc (.cells #[.slice none 0 0,.slice none 0 0] 34)) from (((Mv.refl _ w).alloc _).alloc _).alloc _);have hls:us.length≤200000:=jg;clear hg hx hr1 hr2 he hs hd jg;generalize dC f (ae.t (.mk k n s (.slice ka l.length kc) l))=A at *;simp only [ae.val] at HCM rD ⊢
 go_enter Tryz.func100,Tryz.ntmps100
 go_upto_region 1 with fail;generalize (((w.alloc (.cells #[.int .u8 k,.int .i64 n,.string s,.slice ka l.length kc] 24)).alloc (.cells #[.slice ua us.length uc,.slice ra rs.length rc] 34)).alloc (.cells #[.slice none 0 0,.slice none 0 0] 34))=w3 at *;have HK:=ł (fun (y:World) (hy:Grow w3 y)=>And.intro (aA.out.later (gtr aG.out hy)) (And.intro (ai aL.out hy) (And.intro (ai uK.out hy) (And.intro (ai bC.out hy) (And.intro (iZ.out.later (gtr aG.out hy)) trivial)))));have HCM:=ł (fun (y:World) (hy:Grow w3 y)=>HCM.out y (gtr aG.out hy));have HX:=ł (HK.out w3 (Mv.refl _ _));obtain ⟨⟨q0,q1,q2⟩,q3,q4⟩:=bR HX.out.1.blk;have SB:=lt_of_block HX.out.1.blk;clear aL uK bC iZ;go_wp2_with fail;clear q0 q1 q2 q3 q4 SB HX;refine wg 51 [some 17,some 18,some 19,some 20,some 21,some 22,some 16,some 23,some 24,some 7,some 8] [[],[],[1],[2],[3],[0,4],[5],[6],[6],[7],[8]] [] [.c (ae.val (.mk k n s (.slice ka l.length kc) l)),.c (.pointer (some ⟨G,0,none⟩)),.c (.pointer (some ⟨G,0,none⟩)),.c (.pointer (some ⟨G,0,none⟩)),.c (.agg #[.slice fa f.slots.length fc,.int .i64 f.cells,.int .i64 f.stacks]),.p (fun v y=>∃ ca cc,v = .tuple #[.slice ca (A).length cc,.int .i64 0]∧ax 5 Ins.cells y (.slice ca (A).length cc) (A)),.p (fun v y=>∃ ca cc,v = .tuple #[.slice ca (A).length cc,.int .i64 0]∧ax 5 Ins.cells y (.slice ca (A).length cc) (A)),.p (fun v y=>∃ ca cc,v = .slice ca (A).length cc∧ax 5 Ins.cells y (.slice ca (A).length cc) (A)),.c (.int .i64 0),.p (fun v y=>∃ ca cc,v = .slice ca (A).length cc∧ax 5 Ins.cells y (.slice ca (A).length cc) (A)),.c (.int .i64 0)] ⟨⟨(fun v x y hg h=>by obtain ⟨ca,cc,hv,hr⟩:=h;exact ⟨ca,cc,hv,hr.later hg⟩),fun _=>ve⟩,⟨(fun v x y hg h=>by obtain ⟨ca,cc,hv,hr⟩:=h;exact ⟨ca,cc,hv,hr.later hg⟩),fun _=>ve⟩,⟨(fun v x y hg h=>by obtain ⟨ca,cc,hv,hr⟩:=h;exact ⟨ca,cc,hv,hr.later hg⟩),fun _=>ve⟩,⟨(fun v x y hg h=>by obtain ⟨ca,cc,hv,hr⟩:=h;exact ⟨ca,cc,hv,hr.later hg⟩),fun _=>ve⟩,trivial⟩ (dJ rfl) ?steps ?done
 case steps =>
  refine ⟨?s0,?s1,?s2,?s3,?s4,?s5,?s6,?s7,?s8,?s9,?s10,trivial⟩
  case s0 =>
   refine ok HK (fun vs x hG HX hP => ?_);obtain ⟨⟨n0,n1⟩,n2,n3⟩:=aF HX.out.2.1;simp only [zS];go_simp;exact gc
  case s1 | s10 =>
   refine oo (fun vs x hP => ?_);simp only [zS];go_simp;exact gc
  case s2 | s3 | s4 =>
   refine ok HK (fun vs x hG HX hP => ?_);obtain ⟨⟨q0,q1,q2⟩,q3,q4⟩:=bR HX.out.1.blk;simp only [zS];go_simp;exact gc
  case s5 =>
   refine ok HK (fun vs x hG HX hP => ?_);have h0:vs 0=_:=pq hP 0;have HC:=ł (HCM.out x hG);simp only [ae.val] at h0;simp only [zS,h0];go_simp;refine (HC.out).mono ?_;rintro e y ⟨v,rfl,hrs⟩;obtain ⟨va,vc,rfl⟩:=gz hrs.row;exact ⟨_,rfl,aY hrs.g ⟨va,vc,rfl,gP (fun _=>rfl) hrs.row⟩⟩
  case s6 =>
   refine oo (fun vs x hP => ?_);obtain ⟨iA,iB,h5,r5⟩:=pq hP 5;simp only [zS,h5];go_simp;exact gk ⟨iA,iB,rfl,r5⟩
  case s7 =>
   refine oo (fun vs x hP => ?_);obtain ⟨sU,sV,h6,r6⟩:=pq hP 6;simp only [zS,h6];go_simp;exact gk ⟨sU,sV,rfl,r6⟩
  case s8 =>
   refine oo (fun vs x hP => ?_);obtain ⟨sU,sV,h6,r6⟩:=pq hP 6;simp only [zS,h6];go_simp;exact gc
  case s9 =>
   refine oo (fun vs x hP => ?_);obtain ⟨iC,iD,h7,r7⟩:=pq hP 7;simp only [zS,h7];go_simp;exact gk ⟨iC,iD,rfl,r7⟩
 case done =>
 intro vs w4 hE;have hG:=hE.grow;obtain ⟨iA,iB,h5,r5⟩:=hE.val 5;obtain ⟨sU,sV,h6,r6⟩:=hE.val 6;obtain ⟨iC,iD,h7,r7⟩:=hE.val 7;obtain ⟨dM,dN,h9,r9⟩:=hE.val 9;simp only [zS,Nat.reduceAdd,h5,h6,h7,h9];have aN:=ł (gtr aG.out hG);have bf:=ł (Bj HK.out hG);have Gq:=ł (fun (y:World) (hy:Grow w4 y) (uv:Value) (SC:List Ins) (hu:ax 5 Ins.cells y uv SC)=>rD.out y (gtr aN.out hy) uv SC hu);clear hE hG HK HCM rD;go_wp2_with fail;refine wg 51 [some 28,some 29,some 30,some 31,some 32,some 33,some 34,some 35,some 36,some 37,some 38,some 39,some 27,some 40,some 41,some 9,some 8] [[],[],[1],[2],[3],[],[5],[],[7],[8],[6,9],[0,4,10],[11],[12],[12],[13],[14]] [] [.c (ae.val (.mk k n s (.slice ka l.length kc) l)),.c (.pointer (some ⟨G,0,none⟩)),.c (.pointer (some ⟨G,0,none⟩)),.c (.pointer (some ⟨G,0,none⟩)),.c (.agg #[.slice fa f.slots.length fc,.int .i64 f.cells,.int .i64 f.stacks]),.c (.pointer (some ⟨w.heap.size+1,0,none⟩)),.c (.slice ua us.length uc),.c (.slice dM A.length dN),.c (.int .i64 A.length),.c (.int .i64 (A.length+1)),.p (fun v y=>∃ ca cc,v = .slice ca (bU us (A.length+1)).length cc∧ax 5 Ins.cells y (.slice ca (bU us (A.length+1)).length cc) (bU us (A.length+1))),.p (fun v y=>∃ ca cc,v = .tuple #[.slice ca (jP A (bU us (A.length+1))).length cc,.int .i64 0]∧ax 5 Ins.cells y (.slice ca (jP A (bU us (A.length+1))).length cc) (jP A (bU us (A.length+1)))),.p (fun v y=>∃ ca cc,v = .tuple #[.slice ca (jP A (bU us (A.length+1))).length cc,.int .i64 0]∧ax 5 Ins.cells y (.slice ca (jP A (bU us (A.length+1))).length cc) (jP A (bU us (A.length+1)))),.p (fun v y=>∃ ca cc,v = .slice ca (jP A (bU us (A.length+1))).length cc∧ax 5 Ins.cells y (.slice ca (jP A (bU us (A.length+1))).length cc) (jP A (bU us (A.length+1)))),.c (.int .i64 0),.p (fun v y=>∃ ca cc,v = .slice ca (jP A (bU us (A.length+1))).length cc∧ax 5 Ins.cells y (.slice ca (jP A (bU us (A.length+1))).length cc) (jP A (bU us (A.length+1)))),.c (.int .i64 0)] ⟨⟨(fun v x y hg h=>by obtain ⟨ca,cc,hv,hr⟩:=h;exact ⟨ca,cc,hv,hr.later hg⟩),fun _=>ve⟩,⟨(fun v x y hg h=>by obtain ⟨ca,cc,hv,hr⟩:=h;exact ⟨ca,cc,hv,hr.later hg⟩),fun _=>ve⟩,⟨(fun v x y hg h=>by obtain ⟨ca,cc,hv,hr⟩:=h;exact ⟨ca,cc,hv,hr.later hg⟩),fun _=>ve⟩,⟨(fun v x y hg h=>by obtain ⟨ca,cc,hv,hr⟩:=h;exact ⟨ca,cc,hv,hr.later hg⟩),fun _=>ve⟩,⟨(fun v x y hg h=>by obtain ⟨ca,cc,hv,hr⟩:=h;exact ⟨ca,cc,hv,hr.later hg⟩),fun _=>ve⟩,trivial⟩ (dJ rfl) ?steps ?done
 case steps =>
  refine ⟨?s0,?s1,?s2,?s3,?s4,?s5,?s6,?s7,?s8,?s9,?s10,?s11,?s12,?s13,?s14,?s15,?s16,trivial⟩
  case s0 =>
   refine ok bf (fun vs x hG HX hP => ?_);obtain ⟨⟨n0,n1⟩,n2,n3⟩:=aF HX.out.2.1;simp only [zS];go_simp;exact gc
  case s1 | s5 | s7 | s8 | s16 =>
   refine oo (fun vs x hP => ?_);simp only [zS];go_simp;exact gc
  case s2 | s3 | s4 =>
   refine ok bf (fun vs x hG HX hP => ?_);obtain ⟨⟨q0,q1,q2⟩,q3,q4⟩:=bR HX.out.1.blk;simp only [zS];go_simp;exact gc
  case s6 =>
   refine ok bf (fun vs x hG HX hP => ?_);obtain ⟨u0,u1⟩:=aB HX.out.2.2.1;simp only [zS];go_simp;exact gc
  case s9 =>
   refine ok bf (fun vs x hG HX hP => ?_);have hw:IntKind.i64.wrap ((A.length:Int)+1)=A.length+1:=IntWalk.i64_in _ (by omega);simp only [zS];go_simp;exact gc
  case s10 =>
   refine ok bf (fun vs x hG HX hP => ?_);have HC:=ł (Ik (.slice ua us.length uc) us (A.length+1) x HX.out.2.2.2.2.1 (by omega));simp only [zS];go_simp;refine (HC.out).mono ?_;rintro e y ⟨v,rfl,hrs⟩;obtain ⟨va,vc,rfl⟩:=gz hrs.row;exact ⟨_,rfl,aY hrs.g ⟨va,vc,rfl,gP (fun _=>rfl) hrs.row⟩⟩
  case s11 =>
   refine ok bf (fun vs x hG HX hP => ?_);have h0:vs 0=_:=pq hP 0;obtain ⟨pG,pI,h10,SE⟩:=pq hP 10;have HC:=ł (Gq.out x hG _ _ SE (by rw [uS];omega));simp only [ae.val] at h0;simp only [zS,h0,h10];go_simp;refine (HC.out).mono ?_;rintro e y ⟨v,rfl,hrs⟩;obtain ⟨va,vc,rfl⟩:=gz hrs.row;exact ⟨_,rfl,aY hrs.g ⟨va,vc,rfl,gP (fun _=>rfl) hrs.row⟩⟩
  case s12 =>
   refine oo (fun vs x hP => ?_);obtain ⟨gq,gu,h11,SF⟩:=pq hP 11;simp only [zS,h11];go_simp;exact gk ⟨gq,gu,rfl,SF⟩
  case s13 =>
   refine oo (fun vs x hP => ?_);obtain ⟨JJ,JK,h12,KN⟩:=pq hP 12;simp only [zS,h12];go_simp;exact gk ⟨JJ,JK,rfl,KN⟩
  case s14 =>
   refine oo (fun vs x hP => ?_);obtain ⟨JJ,JK,h12,KN⟩:=pq hP 12;simp only [zS,h12];go_simp;exact gc
  case s15 =>
   refine oo (fun vs x hP => ?_);obtain ⟨FH,FI,kE,SG⟩:=pq hP 13;simp only [zS,kE];go_simp;exact gk ⟨FH,FI,rfl,SG⟩
 case done =>
 intro vs w5 hE;have hG:=hE.grow;obtain ⟨pG,pI,h10,SE⟩:=hE.val 10;obtain ⟨gq,gu,h11,SF⟩:=hE.val 11;obtain ⟨JJ,JK,h12,KN⟩:=hE.val 12;obtain ⟨FH,FI,kE,SG⟩:=hE.val 13;obtain ⟨Am,Ao,pW,r15⟩:=hE.val 15;simp only [zS,Nat.reduceAdd,h10,h11,h12,kE,pW];have aS:=ł (gtr aN.out hG);have bK:=ł (bf.out _ hG);have eQ:=ł (show ay w5 (.agg #[.slice Am (jP A (bU us (A.length+1))).length Ao,.slice none 0 0]) (aH f (ae.t (.mk k n s (.slice ka l.length kc) l)) ⟨us,rs⟩) from by rw [HW.out];exact ay.mk r15 (ax.nil _ _ _));obtain ⟨hs,hm⟩:=set2 bK.out.2.2.2.1 (.slice Am (jP A (bU us (A.length+1))).length Ao) (.slice none 0 0);obtain ⟨r0,r1⟩:=aB bK.out.2.2.2.1;have rt:=aJ bK.out.2.2.2.1;have HS:=ł hs;have HM:=ł hm;have bu:=ł (eQ.out.box bK.out.2.2.2.1 hm);have aM:=ł (show Grow w _ from Mv.trans aS.out hm (fun b e => .inr (by omega)));clear hE hG bf Gq hs hm eQ;generalize jP A (bU us (A.length+1))=wl at *;go_wp2_with fail;obtain ⟨t0,t1⟩:=aB HS.out;exact bodyPost_ret (v := .agg #[.slice Am wl.length Ao,.slice none 0 0]) (by simp [results,Tryz.results100,go_sem,t0,t1]) rfl ⟨_,rfl,bu.out,aM.out⟩
theorem En (w:World) (G:Nat) (sv pv:Value) (f:az) (procs:List aj) (hg:gm w G sv pv f procs) (x:ae) (hx:aV w x) (he:aI x.t=true) (hs:bM f x.t=true) (hc0:0≤f.cells) (hc1:f.cells≤1000) (hd:gV x.t≤10000) (hlen:(dC f x.t).length≤200000) :
 Calls Tryz.prog 107 #[.pointer (some ⟨G,0,none⟩),x.val] w (bN w (ed f x.t)):=by
 obtain ⟨fa,fc,rfl,hfc,hfl⟩:=hg.fr.row.form;obtain ⟨pa,pc,rfl,-,-⟩:=hg.pr.row.form;have rD:=ł (fun (y:World) (hy:Grow w y) (uv:Value) (hu:ay y uv (ah [⟨9,0,4,5,17⟩]))=>Em y G _ _ f procs (hg.later hy) x uv _ (hx.later hy) hu he hs hc0 hc1 hd hlen (by simp [ah]));obtain ⟨k,n,s,kv,l⟩:=x;obtain ⟨ka,kc,rfl,-,-⟩:=hx.form;have aA:=ł hg;obtain ⟨aL,bC,HG2⟩:=a2 w (.cells #[.int .u8 k,.int .i64 n,.string s,.slice ka l.length kc] 24) (.cells #[.slice none 0 0,.slice none 0 0] 34);clear hg hx he hs hd hlen;simp only [ae.val] at rD ⊢
 go_enter Tryz.func107,Tryz.ntmps107
 go_wp2_with fail;generalize ((w.alloc (.cells #[.int .u8 k,.int .i64 n,.string s,.slice ka l.length kc] 24)).alloc (.cells #[.slice none 0 0,.slice none 0 0] 34))=w2 at *;have HK:=ł (fun (y:World) (hy:Grow w2 y)=>And.intro (aA.out.later (gtr HG2.out hy)) (ai aL.out hy));have Gq:=ł (fun (y:World) (hy:Grow w2 y)=>rD.out y (gtr HG2.out hy));refine wg 12 [some 5,some 6,some 7,some 8,some 9,some 10,some 11,none] [[],[],[],[2],[3],[4],[0,1,5],[6]] [2,4] [.c (.pointer (some ⟨G,0,none⟩)),.c (ae.val (.mk k n s (.slice ka l.length kc) l)),.p (fun v y=>∃ g,v = .slice (some ⟨g,0,none⟩) 4 4∧y.heap[g]? = some (.cells #[.int .i64 0,.int .i64 4,.int .i64 5,.int .i64 17] 3 (0,0))),.c (.agg #[.int .u8 9,.int .i64 0,.int .i64 4,.int .i64 5,.int .i64 17]),.p (fun v y=>∃ g,v = .slice (some ⟨g,0,none⟩) 1 1∧ax 5 Ins.cells y (.slice (some ⟨g,0,none⟩) 1 1) ([⟨9,0,4,5,17⟩]:List Ins)),.p (fun v y=>ay y v (ah [⟨9,0,4,5,17⟩])),.p (fun v y=>ay y v (ed f (ae.t (.mk k n s (.slice ka l.length kc) l)))),.rs (w.heap.size+1) 6 #[.slice none 0 0,.slice none 0 0] 34] ⟨sH,sR,sP,sP,trivial⟩ (ik (n:=7) rfl rfl (bC.out)) ?steps ?done
 case steps =>
  refine ⟨?s0,?s1,?s2,?s3,?s4,?s5,?s6,?s7,trivial⟩
  case s0 =>
   refine oo (fun vs x hP => ?_);simp only [zS];go_simp;exact gc
  case s1 =>
   refine ok HK (fun vs x hG HX hP => ?_);obtain ⟨⟨n0,n1⟩,n2,n3⟩:=aF HX.out.2;simp only [zS];go_simp;exact gc
  case s2 =>
   refine oo (fun vs x hP => ?_);simp only [zS];go_simp;exact gl ⟨_,rfl,heap_alloc_new x _⟩
  case s3 =>
   refine ok HK (fun vs x hG HX hP => ?_);obtain ⟨g2,h2,b2⟩:=pq hP 2;have HC:=ł (G6 9 (0) (4) (5) (17) g2 _ x b2);simp only [zS,h2];go_simp;refine (HC.out).mono ?_;rintro e y ⟨rfl,hg⟩;exact ⟨_,rfl,bz hg rfl⟩
  case s4 =>
   refine oo (fun vs x hP => ?_);simp only [zS];go_simp;exact gl ⟨_,rfl,ax.bH (f:=Ins.cells) (l:=([⟨9,0,4,5,17⟩]:List Ins)) (fun _=>rfl) (heap_alloc_new x _) rfl (by simp)⟩
  case s5 =>
   refine ok HK (fun vs x hG HX hP => ?_);obtain ⟨g4,h4,b4⟩:=pq hP 4;have HC:=ł (gQ _ _ x b4);simp only [zS,h4];go_simp;refine (HC.out).mono ?_;rintro e y ⟨v,rfl,hp,hg⟩;exact ⟨_,rfl,aY hg hp⟩
  case s6 =>
   refine ok HK (fun vs x hG HX hP => ?_);have h1:vs 1=_:=pq hP 1;have p5:=pq hP 5;have KO:=p5;obtain ⟨iA,iB,jU,jV,h5,c5,f5⟩:=p5;rw [h5] at KO;have HC:=ł (Gq.out x hG _ KO);simp only [ae.val] at h1;simp only [zS,h1,h5];go_simp;refine (HC.out).mono ?_;rintro e y ⟨v,rfl,hp,hg⟩;exact ⟨_,rfl,aY hg hp⟩
  case s7 =>
   refine il (fun vs x hb hv => ?_);obtain ⟨sU,sV,zf,zg,h6,c6,f6⟩:=hv;obtain ⟨c0,c1⟩:=aB hb;have zt:=aJ hb;simp only [zS,h6];go_simp;exact set2 hb _ _
 case done =>
 intro vs w3 hE;have p5:=hE.val 5;have KO:=p5;obtain ⟨iA,iB,jU,jV,h5,c5,f5⟩:=p5;obtain ⟨sU,sV,zf,zg,h6,c6,f6⟩:=hE.val 6;have b7:=hE.res 7;simp only [zS,h6] at b7;simp only [zS,Nat.reduceAdd,h5,h6];have HM:=ł (hE.last 7);have aM:=ł (show Grow w w3 from Mv.trans HG2.out HM.out (fun b e => .inr (by omega)));have bu:=ł (show ay w3 (.agg #[.slice sU (ed f (ae.t (.mk k n s (.slice ka l.length kc) l))).code.length sV,.slice zf (ed f (ae.t (.mk k n s (.slice ka l.length kc) l))).refs.length zg]) (ed f (ae.t (.mk k n s (.slice ka l.length kc) l))) from ⟨sU,sV,zf,zg,rfl,c6,f6⟩);have HB:=ł b7;clear hE b7 HM c6 f6;simp only [bI] at HB;go_wp2_with fail;obtain ⟨t0,t1⟩:=aB HB.out;exact bodyPost_ret (v := .agg #[.slice sU (ed f (ae.t (.mk k n s (.slice ka l.length kc) l))).code.length sV,.slice zf (ed f (ae.t (.mk k n s (.slice ka l.length kc) l))).refs.length zg]) (by simp [results,Tryz.results107,go_sem,t0,t1]) rfl ⟨_,rfl,bu.out,aM.out⟩
end Go.Proofs.YtnobahchcongnaaGreatDoor
