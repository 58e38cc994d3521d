import Derived.Test.YtnobahchcongnaaGreatDoorR39
import Derived.RangeFuncCalls
import Derived.OwnWalkIn
set_option linter.unusedSimpArgs false
set_option linter.unusedVariables false
set_option maxRecDepth 100000
set_option maxHeartbeats 25600000
namespace Go.Proofs.YtnobahchcongnaaGreatDoor
open Go.RowKit Go.Instr
attribute [local go_sem] Oper.semAt_some
def kY (t:TypeId):Bool:=t == 95 || t == 27 || t == 35
theorem ZF:DW kY:=⟨by decide,by decide,by decide,by decide,by decide⟩
structure vS (w:World) (k n:Int) (s:ByteArray) (kv:Value) (M T:Nat) (x:World):Prop where
 b:x.heap[w.heap.size]? = some (.cells #[.int .u8 k,.int .i64 n,.string s,kv] 24 (0,0))
 r:x.heap[w.heap.size+1]? = some (.cells #[.slice none 0 0,.int .i64 0,.int .i64 0] 27 (0,0))
 e:x.heap[w.heap.size+1+1]? = some (.cells #[.int .i64 0] 35 (0,0))
 t:x.heap[T]? = some (.cells #[.map (some M)] 89 (0,0))
theorem vS.mv {w:World} {k n:Int} {s:ByteArray} {kv:Value} {M T:Nat} {x y:World} {O:Nat->Prop} (h:vS w k n s kv M T x) (hm:Mv O x y) (hO:∀ b,b=w.heap.size\/b=w.heap.size+1\/b=w.heap.size+1+1\/b=T->¬ O b):vS w k n s kv M T y :=
 ⟨(hm.block _ (lt_of_block h.b) (hO _ (.inl rfl))).trans h.b,(hm.block _ (lt_of_block h.r) (hO _ (.inr (.inl rfl)))).trans h.r,(hm.block _ (lt_of_block h.e) (hO _ (.inr (.inr (.inl rfl))))).trans h.e,(hm.block _ (lt_of_block h.t) (hO _ (.inr (.inr (.inr rfl))))).trans h.t⟩
theorem vS.add {w:World} {k n:Int} {s:ByteArray} {kv:Value} {M T F:Nat} {x y:World} {sv:Value} {f:ax} (h:vS w k n s kv M T x) (hst:fF w F x sv f) (hm:Mv (λb=>b=F\/sv.ownBlock=some b) x y) (hF:w.heap.size+1+1<F) (hT:T≠F):vS w k n s kv M T y :=
 h.mv hm (λb hb e=>by
  rcases e with rfl|e
  · omega
  · rcases hb with rfl|rfl|rfl|rfl
    · exact dK hst.row h.b (by decide) e
    · exact dK hst.row h.r (by decide) e
    · exact dK hst.row h.e (by decide) e
    · exact dK hst.row h.t (by decide) e)
theorem MapAt.add {M F:Nat} {w x y:World} {sv:Value} {f:ax} {d:List (ByteArray × Value)} (h:MapAt Value.string x M d) (hst:fF w F x sv f) (hm:Mv (λb=>b=F\/sv.ownBlock=some b) x y) (hF:M≠F):MapAt Value.string y M d :=
 h.keep (hm.block M h.lt (λe=>by
  rcases e with e|e
  · exact hF e
  · obtain⟨-,cs,z,hc⟩:=tJ hst.row M e;obtain⟨es,clock,hb,_⟩:=h;rw[hb]at hc;cases hc))
def wI (w:World) (l:List bu) (k n:Int) (s:ByteArray) (kv:Value) (F:Nat) (pre:List (Value × ae)) (W:World):Prop :=
 (∃ sv,fF w F W sv (fB l (came pre)))/\MapAt Value.string W (F+1) (Aj l)/\vS w k n s kv (F+1) (F+1+1) W/\(came pre).any (clash l)=false
def I9 (w:World) (l:List bu) (c:Code) (pre:List (Value × ae)) (W:World):Prop :=
 c = .ret/\(W.heap[w.heap.size+1]? = some (.cells #[.slice none 0 0,.int .i64 0,.int .i64 0] 27 (0,0))/\W.heap[w.heap.size+1+1]? = some (.cells #[.int .i64 22] 35 (0,0)))/\Grow w W/\(came pre).any (clash l)=true
theorem wI.it {w:World} {l:List bu} {k n:Int} {s:ByteArray} {kv:Value} {F B:Nat} {pre:List (Value × ae)} {X Y:World} (h:wI w l k n s kv F pre X) (hm:CB kY B X Y) (hF:w.heap.size+1+1<F) (hB:F+3<=B):wI w l k n s kv F pre Y:=by
 obtain⟨⟨sv,hst⟩,hmp,hbx,hc⟩:=h;have hlow:∀ b,b<B->¬ ¬ JR kY B X b:=λb hb e=>e (.inl hb);refine⟨⟨sv,hst.g.trans hm (λb hb => .inr ?_),(hm.block F (lt_of_block hst.blk) (hlow F (by omega))).trans hst.blk,bg hst.row hm (λg hg e => ?_),hst.hF⟩,hmp.keep (hm.block _ hmp.lt (hlow _ (by omega))),hbx.mv hm (λb hb=>hlow b (by omega)),hc⟩
 · have:¬ b<B:=λh=>hb (.inl h);omega
 · obtain⟨-,cs,z,hx⟩:=tJ hst.row g hg;exact e (.inr ⟨cs,_,z,hx,rfl⟩)
theorem I9.it {w:World} {l:List bu} {c:Code} {B:Nat} {pre:List (Value × ae)} {X Y:World} (h:I9 w l c pre X) (hm:CB kY B X Y) (hB:w.heap.size+1+1<B):I9 w l c pre Y:=by
 obtain⟨h1,⟨h2,h3⟩,h4,h5⟩:=h;have hlow:∀ b,b<B->¬ ¬ JR kY B X b:=λb hb e=>e (.inl hb);refine⟨h1,⟨(hm.block _ (lt_of_block h2) (hlow _ (by omega))).trans h2,(hm.block _ (lt_of_block h3) (hlow _ (by omega))).trans h3⟩,h4.trans hm (λb hb => .inr ?_),h5⟩;have:¬ b<B:=λh=>hb (.inl h);omega
theorem Cg {y:World} {R E:Nat} {a b c d a' b' c' d':Value} {t t':TypeId} (hr:y.heap[R]? = some (.cells #[a,b,c] t (0,0))) (he:y.heap[E]? = some (.cells #[d] t' (0,0))) (hne:R≠E) :
 ((((y.setCell ⟨R,0,none⟩ a').setCell ⟨R,1,none⟩ b').setCell ⟨R,2,none⟩ c').setCell ⟨E,0,none⟩ d').heap[R]? = some (.cells #[a',b',c'] t (0,0)) /\
 ((((y.setCell ⟨R,0,none⟩ a').setCell ⟨R,1,none⟩ b').setCell ⟨R,2,none⟩ c').setCell ⟨E,0,none⟩ d').heap[E]? = some (.cells #[d'] t' (0,0)) /\
 Mv (λb=>b=R\/b=E) y ((((y.setCell ⟨R,0,none⟩ a').setCell ⟨R,1,none⟩ b').setCell ⟨R,2,none⟩ c').setCell ⟨E,0,none⟩ d'):=by
 obtain⟨h1,h2⟩:=Ml hr a' b' c';have he2:=(h2.block E (lt_of_block he) (λe=>hne e.symm)).trans he;obtain⟨h3,h4⟩:=set1 he2 d';exact⟨(h4.block R (lt_of_block h1) hne).trans h1,h3,(h2.mono (λb e => .inl (.inl e))).trans h4 (λb e => .inl (.inr e))⟩
theorem Gs (w:World):fE w (.slice none 0 0) iK:=⟨az.nil _ _ _⟩
theorem YW (l:List bu):frameC l=fB l (came []):=rfl
theorem aaT (v:Value) (l:List bu) (x:ae) (w:World) (h:az 3 bu.cells w v l) (hx:aR w x) (hs:aI x.t<=900) :
 Calls Tryz.prog 14 #[v,x.val] w (OfG w l x.t):=by
 obtain⟨va,vc,rfl,Fa,hvl⟩:=h.form;obtain⟨k,n,s,kv,ls⟩:=x;obtain⟨ka,kc,rfl,-,-⟩:=hx.form;have HB0:=ł (show(((w.alloc (.cells #[.int .u8 k,.int .i64 n,.string s,.slice ka ls.length kc] 24)).alloc (.cells #[.slice none 0 0,.int .i64 0,.int .i64 0] 27)).alloc (.cells #[.int .i64 0] 35)).heap[w.heap.size]? = _ from aS (aS (heap_alloc_new w _) _) _);have nO:=ł (show(((w.alloc (.cells #[.int .u8 k,.int .i64 n,.string s,.slice ka ls.length kc] 24)).alloc (.cells #[.slice none 0 0,.int .i64 0,.int .i64 0] 27)).alloc (.cells #[.int .i64 0] 35)).heap[w.heap.size+1]? = some (.cells #[.slice none 0 0,.int .i64 0,.int .i64 0] 27 (0,0))from aS (by have:=heap_alloc_new (w.alloc (.cells #[.int .u8 k,.int .i64 n,.string s,.slice ka ls.length kc] 24)) (.cells #[.slice none 0 0,.int .i64 0,.int .i64 0] 27);rwa[World.size_alloc]at this) _);have rq:=ł (show(((w.alloc (.cells #[.int .u8 k,.int .i64 n,.string s,.slice ka ls.length kc] 24)).alloc (.cells #[.slice none 0 0,.int .i64 0,.int .i64 0] 27)).alloc (.cells #[.int .i64 0] 35)).heap[w.heap.size+1+1]? = some (.cells #[.int .i64 0] 35 (0,0))from by have:=heap_alloc_new ((w.alloc (.cells #[.int .u8 k,.int .i64 n,.string s,.slice ka ls.length kc] 24)).alloc (.cells #[.slice none 0 0,.int .i64 0,.int .i64 0] 27)) (.cells #[.int .i64 0] 35);rwa[World.size_alloc,World.size_alloc]at this);have aH:=ł (show Grow w (((w.alloc (.cells #[.int .u8 k,.int .i64 n,.string s,.slice ka ls.length kc] 24)).alloc (.cells #[.slice none 0 0,.int .i64 0,.int .i64 0] 27)).alloc (.cells #[.int .i64 0] 35))from(((Mv.refl _ w).alloc _).alloc _).alloc _);have gK:=ł h;have jR:=ł hx;have HS:=ł hs;have EK:=ł (λ(z:World) (hz:Grow w z)=>_d _ l z (h.later hz));have HIS:=ł (λ(z:World) (hz:Grow w z)=>Kc (.mk k n s (.slice ka ls.length kc) ls) z (hx.later hz));clear h hx hs;simp only[ae.val]at HIS ⊢;refine X5 Tryz.func14 rfl ?_;simp only[Tryz.ntmps14,List.size_toArray,List.length_cons,List.length_nil,Nat.reduceAdd,Nat.reduceSub,Array.replicate_succ,Array.replicate_zero,List.push_toArray,List.append_toArray,List.nil_append,List.cons_append];go_wp2_with fail;generalize (((w.alloc (.cells #[.int .u8 k,.int .i64 n,.string s,.slice ka ls.length kc] 24)).alloc (.cells #[.slice none 0 0,.int .i64 0,.int .i64 0] 27)).alloc (.cells #[.int .i64 0] 35))=w3 at *;refine(EK.out _ aH.out).mono ?_;rintro e w4 ⟨a1,n1,c1,a2,n2,c2,a3,n3,c3,rfl,hg4⟩;have aP:=ł hg4;clear hg4 EK;cases hval:jY l with
 |false =>
  have HE:=ł (show xy l=3 from by simp[xy,hval]);have qg:=ł (show nH l (ae.t (.mk k n s (.slice ka ls.length kc) ls))=3 from by simp[nH,hval]);rw[HE.out];have hr:=ai nO.out aP.out;have he:=ai rq.out aP.out;obtain⟨d0,d1,d2⟩:=cK hr;have ce:=cell1 he;have hlr:=lt_of_block hr;have hle:=lt_of_block he;have zr:=aG hr;have ze:=aG he;obtain⟨hf1,hf2,hf3⟩:=Cg (a' := .slice none 0 0) (b' := .int .i64 0) (c' := .int .i64 0) (d' := .int .i64 3) hr he (by omega);have iE:=ł (aS hf1 (.cells #[.slice a1 n1 c1,.slice a2 n2 c2,.slice a3 n3 c3] 86));have kg:=ł (aS hf2 (.cells #[.slice a1 n1 c1,.slice a2 n2 c2,.slice a3 n3 c3] 86));have gL:=ł (show Grow w _ from(Mv.trans (gtr aH.out aP.out) hf3 (λb e => .inr (by omega))).alloc (.cells #[.slice a1 n1 c1,.slice a2 n2 c2,.slice a3 n3 c3] 86));clear hf1 hf2 hf3 hr he hval;go_wp2_with fail;obtain⟨t0,t1,t2⟩:=cK iE.out;have te:=cell1 kg.out;exact KQ (v := .tuple #[.agg #[.slice none 0 0,.int .i64 0,.int .i64 0],.int .i64 3]) (by simp[results,Tryz.results14,go_sem,t0,t1,t2,te]) rfl ⟨.slice none 0 0,by rw[qg.out];rfl,by rw[qg.out];exact Gs _,gL.out⟩
 |true =>
  have HE:=ł (show xy l=0 from by simp[xy,hval]);have EM:=ł hval;rw[HE.out];clear hval;obtain⟨⟨d0,d1⟩,d2,d3⟩:=aC (ai HB0.out aP.out);have hl0:=lt_of_block (ai HB0.out aP.out);go_wp2_with fail;refine(HIS.out _ (gtr aH.out (aP.out.alloc (.cells #[.slice a1 n1 c1,.slice a2 n2 c2,.slice a3 n3 c3] 86)))).mono ?_;clear d0 d1 d2 d3 hl0 HIS;rintro e w5 ⟨rfl,hg5⟩;have aU:=ł (gtr (aP.out.alloc (.cells #[.slice a1 n1 c1,.slice a2 n2 c2,.slice a3 n3 c3] 86)) hg5);clear hg5;cases hib:bF (ae.t (.mk k n s (.slice ka ls.length kc) ls))with
  |false =>
   have qg:=ł (show nH l (ae.t (.mk k n s (.slice ka ls.length kc) ls))=3 from by simp[nH,hib]);have hr:=ai nO.out aU.out;have he:=ai rq.out aU.out;obtain⟨d0,d1,d2⟩:=cK hr;have ce:=cell1 he;have hlr:=lt_of_block hr;have hle:=lt_of_block he;have zr:=aG hr;have ze:=aG he;obtain⟨hf1,hf2,hf3⟩:=Cg (a' := .slice none 0 0) (b' := .int .i64 0) (c' := .int .i64 0) (d' := .int .i64 3) hr he (by omega);have iE:=ł hf1;have kg:=ł hf2;have gL:=ł (show Grow w _ from(Mv.trans (gtr aH.out aU.out) hf3 (λb e => .inr (by omega))));clear hf1 hf2 hf3 hr he hib;go_wp2_with fail;obtain⟨t0,t1,t2⟩:=cK iE.out;have te:=cell1 kg.out;exact KQ (v := .tuple #[.agg #[.slice none 0 0,.int .i64 0,.int .i64 0],.int .i64 3]) (by simp[results,Tryz.results14,go_sem,t0,t1,t2,te]) rfl ⟨.slice none 0 0,by rw[qg.out];rfl,by rw[qg.out];exact Gs _,gL.out⟩
  |true =>
   have dZ:=ł hib;have OM:=ł (show(jY l && bF (ae.t (.mk k n s (.slice ka ls.length kc) ls)))=true from by rw[EM.out,hib];rfl);clear hib;have hmm := @run_makeMap Tryz.prog;have oN:Grow w5 (((w5.alloc (.cells #[.slice none 0 0,.int .i64 0,.int .i64 0] 27)).alloc (.map #[] 0)).alloc (.cells #[.map (some (w5.heap.size+1))] 89)):=(((Mv.refl _ _).alloc _).alloc _).alloc _;have mI:=ł (gtr (gtr aH.out aU.out) oN);have V9:w.heap.size+1+1<w5.heap.size:=lt_of_block (ai rq.out aU.out);have TW:=ł (show vS w k n s (.slice ka ls.length kc) (w5.heap.size+1) (w5.heap.size+1+1) _ from
    ⟨ai (ai HB0.out aU.out) oN,ai (ai nO.out aU.out) oN,ai (ai rq.out aU.out) oN,by have:=heap_alloc_new ((w5.alloc (.cells #[.slice none 0 0,.int .i64 0,.int .i64 0] 27)).alloc (.map #[] 0)) (.cells #[.map (some (w5.heap.size+1))] 89);rwa[World.size_alloc,World.size_alloc]at this⟩)
   have Ja:=ł (show fF w w5.heap.size _ (.slice none 0 0) iK from⟨mI.out,aS (aS (heap_alloc_new w5 _) _) _,World.ownsRow_nil _ _ _ _,by omega⟩);have Wd:=ł (show MapAt Value.string (((w5.alloc (.cells #[.slice none 0 0,.int .i64 0,.int .i64 0] 27)).alloc (.map #[] 0)).alloc (.cells #[.map (some (w5.heap.size+1))] 89)) (w5.heap.size+1) []from
    (by have:=MapAt.new Value.string (w5.alloc (.cells #[.slice none 0 0,.int .i64 0,.int .i64 0] 27));rw[World.size_alloc]at this;exact this.keep (Below.heap_alloc _ _ _ this.lt)))
   have We:=ł (show(((w5.alloc (.cells #[.slice none 0 0,.int .i64 0,.int .i64 0] 27)).alloc (.map #[] 0)).alloc (.cells #[.map (some (w5.heap.size+1))] 89)).heap.size=w5.heap.size+3 from by simp);have AV:=ł V9;clear oN V9 HB0 nO rq;go_wp2_with fail;generalize (((w5.alloc (.cells #[.slice none 0 0,.int .i64 0,.int .i64 0] 27)).alloc (.map #[] 0)).alloc (.cells #[.map (some (w5.heap.size+1))] 89))=w8 at *;clear hmm;have HF:=ł (show w.heap.size+1+1<w5.heap.size/\w5.heap.size+3=w8.heap.size from⟨AV.out,We.out.symm⟩);clear AV We;generalize w5.heap.size=F at *;clear aU aP aH HE;generalize w4.heap.size=b6 at *;clear w5 w4 w3
   go_loopw [33] (λt wr=>∃ (j:Nat) (sv:Value),t = .int .i64 j/\j<=l.length/\vC [] l=vC ((l.take j).map bu.name) (l.drop j)/\fF w F wr sv (frameC (l.take j))/\MapAt Value.string wr (F+1) (Aj (l.take j))/\vS w k n s (.slice ka ls.length kc) (F+1) (F+1+1) wr/\w8.heap.size<=wr.heap.size) (λt _=>l.length - (intOf t).toNat)
   case atStart=>exact⟨0,_,rfl,Nat.zero_le _,rfl,Ja.out,Wd.out,TW.out,Nat.le_refl _⟩
   obtain⟨j,sv,rfl,hj,hdup,hst,hmp,hbx,hsz⟩:=hrel;have Jb:=ł hdup;have HST:=ł hst;have cZ:=ł hbx;have jq:=ł hsz;have hgw:=hst.g;clear hst hbx hsz Ja Wd TW hdup;by_cases hlt:j<l.length
   · obtain⟨b,off,cap',e,_,hcc⟩:=(gK.out.later hgw).at hlt;simp only[Value.slice.injEq,true_and]at e;obtain⟨rfl,rfl⟩:=e;have c0:=hcc 0 _ rfl;have c1:=hcc 1 _ rfl;have c2:=hcc 2 _ rfl;have EZ:=ł (_V l j hlt);have HDT:=ł (YU l j hlt);have HFT:=ł (X6 l j hlt);have hbd:=Po l j EM.out;have nP:=ł hbd;have AJ:l[j].okB=true:=by
      have:=EM.out;simp only[jY,Bool.and_eq_true]at this;exact List.all_eq_true.1 this.2 _ (List.getElem_mem hlt)
     have Wh:=ł (show 0<=l[j].len/\l[j].len<=100000 from by
      simp only[bu.okB,ui]at AJ;split at AJ
      · have:l[j].len=0:=by simpa using AJ
        omega
      · split at AJ
        · simp at AJ;omega
        · cases AJ)
     clear AJ hbd;generalize l[j]=x at *;obtain⟨xs,xk,xn⟩:=x;simp only[Nat.add_zero]at c0 c1 c2 Wh;have hbl:b<wr.heap.size:=World.block_lt_of_cell? wr _ c0;have qX:=hmp.keep (w':=wr.alloc (.cells #[.string xs,.int .u8 xk,.int .i64 xn] 50)) (Below.heap_alloc _ _ _ hmp.lt);have hl:=run_get Tryz.iA Tryz.underlying89 xs (.bool false) Tryz.BZ qX;rw[KR]at hl;have ct:=cell1 cZ.out.t;have hlt2:=lt_of_block cZ.out.t;generalize hq:((l.take j).any λv=>v.name == xs)=q at *;cases q with
     |true =>
      have qg:=ł (show nH l (ae.t (.mk k n s (.slice ka ls.length kc) ls))=22 from by
       simp only[nH,OM.out,if_true];rw[if_pos (by rw[Jb.out,EZ.out];rfl)])
      obtain⟨d0,d1,d2⟩:=cK cZ.out.r;have ce:=cell1 cZ.out.e;have hlr:=lt_of_block cZ.out.r;have hle:=lt_of_block cZ.out.e;have zr:=aG cZ.out.r;have ze:=aG cZ.out.e;obtain⟨hf1,hf2,hf3⟩:=Cg (a' := .slice none 0 0) (b' := .int .i64 0) (c' := .int .i64 0) (d' := .int .i64 22) cZ.out.r cZ.out.e (by omega);have iE:=ł (aS hf1 (.cells #[.string xs,.int .u8 xk,.int .i64 xn] 50));have kg:=ł (aS hf2 (.cells #[.string xs,.int .u8 xk,.int .i64 xn] 50));have gL:=ł (show Grow w _ from(Mv.trans hgw hf3 (λb e => .inr (by omega))).alloc (.cells #[.string xs,.int .u8 xk,.int .i64 xn] 50));clear hf1 hf2 hf3 hcc hmp qX hgw;go_wp2_with fail;obtain⟨t0,t1,t2⟩:=cK iE.out;have te:=cell1 kg.out;exact KQ (v := .tuple #[.agg #[.slice none 0 0,.int .i64 0,.int .i64 0],.int .i64 22]) (by simp[results,Tryz.results14,go_sem,t0,t1,t2,te]) rfl ⟨.slice none 0 0,by rw[qg.out];rfl,by rw[qg.out];exact Gs _,gL.out⟩
     |false =>
      have hga:Grow wr (wr.alloc (.cells #[.string xs,.int .u8 xk,.int .i64 xn] 50)):=(Mv.refl _ _).alloc _;have hva:=heap_alloc_new wr (.cells #[.string xs,.int .u8 xk,.int .i64 xn] 50);obtain⟨w6,hup,TY,EN⟩:=run_set Tryz.iA Tryz.underlying89 xs (.bool true) qX;have iH:=qX;obtain⟨es,clock,hmo,-⟩:=iH;have hne:∀ {b:Nat} {cs:Array Value} {t:TypeId} {z:Nat × Nat},(wr.alloc (.cells #[.string xs,.int .u8 xk,.int .i64 xn] 50)).heap[b]? = some (.cells cs t z)->w6.heap[b]? = some (.cells cs t z):=fun {b cs t z} hb=>by
       rw[EN.block b (lt_of_block hb) (λe=>by subst e;rw[hmo]at hb;cases hb)];exact hb
      have MV:fF w F w6 sv (frameC (l.take j)):=by
       have h0:=HST.out.grow hga;refine⟨h0.g.trans EN (λb e => .inr (by have:=h0.hF;omega)),hne h0.blk,bg h0.row EN (λg hg e => ?_),h0.hF⟩;obtain⟨-,cs,z,hc⟩:=tJ h0.row g hg;subst e;rw[hmo]at hc;cases hc
      have TZ:vS w k n s (.slice ka ls.length kc) (F+1) (F+1+1) w6:=by
       have h0:=cZ.out.mv hga (λ_ _ e=>e);exact⟨hne h0.b,hne h0.r,hne h0.e,hne h0.t⟩
      have hv6:=hne hva;obtain⟨y0,y1,y2⟩:=cK hv6;have lV:=lt_of_block hv6;have AB:=ł (Ld w F w6 sv (frameC (l.take j)) ⟨xs,xk,xn⟩ MV (by
       obtain⟨⟨⟨b1,b2⟩,⟨b3,b4⟩,b5⟩,b6⟩:=nP.out;have:=Wh.out;exact⟨by omega,⟨by omega,by omega⟩,⟨by omega,by omega⟩,by simpa using this⟩))
      have uo:=ł MV;have ab5:=ł TZ;have ab6:=ł TY;have ab7:=ł (show w8.heap.size<=w6.heap.size from by have:=EN.size;have:=hga.size;have:=jq.out;omega);clear hcc hmp qX hgw MV TZ TY hne EN hmo hga hva hv6;simp only[bu.val]at AB;go_wp2_with fail;refine AB.out.mono ?_;clear hl hup y0 y1 y2 lV ct hlt2 c0 c1 c2 hbl AB;rintro e w7 ⟨rfl,BF,T9,Jc⟩;have ab8:=ł T9;have ab9:=ł (ab5.out.add uo.out Jc HF.out.1 (by omega));have aca:=ł (ab6.out.add uo.out Jc (by omega));have acb:=ł (show w8.heap.size<=w7.heap.size from by have:=Jc.size;have:=ab7.out;omega);clear T9 Jc;go_wp2_with fail
      go_roundw
      case rel=>exact⟨j+1,BF,by go_num,by omega,by rw[Jb.out,EZ.out];rfl,by rw[HFT.out];exact ab8.out,by rw[HDT.out];exact aca.out,ab9.out,acb.out⟩
      case measure=>(simp[intOf] <;> omega)
   · obtain rfl:j=l.length:=by omega
     have SY:vC [] l=false:=by rw[Jb.out,List.drop_length];rfl
     have hst:=HST.out;rw[List.take_length]at hst hmp;have oD:=ł hmp;have vT:=ł hst;have Wi:=ł SY;have HW:=ł (_U (.mk k n s (.slice ka ls.length kc) ls) wr (jR.out.later hgw) (by have:=HS.out;omega));simp only[ae.val]at HW;obtain⟨⟨d0,d1⟩,d2,d3⟩:=aC cZ.out.b;have hl0:=lt_of_block cZ.out.b;clear hmp hst SY HST Jb hgw;go_wp2_with fail;refine HW.out.mono ?_;clear d0 d1 d2 d3 hl0 HW;rintro e w9 ⟨R,y,rfl,hrb,hno,nQ,FJ⟩;have HST:=ł (vT.out.grow FJ);have acd:=ł (oD.out.keep (FJ.block _ oD.out.lt (λe=>e)));have ace:=ł (cZ.out.mv FJ (λ_ _ e=>e));have uq:=ł (show w8.heap.size<=w9.heap.size from by have:=jq.out;have:=FJ.size;omega);have JU:=ł (_T kY ZF R y w9 hrb hno (by rw[nQ];have:=HS.out;omega));rw[nQ]at JU;clear hrb hno FJ oD cZ jq vT;go_wp2_with fail;refine WR kY (gf:=66) (lb:=#[.pointer (some ⟨R,0,none⟩)]) rfl (enters_of Tryz.func66 (by kernel_rfl) rfl) JU.out (Mv.refl _ _) (λ_=>rfl)
      (wI w l k n s (.slice ka ls.length kc) F) (I9 w l) (λpre X Y hi hm=>hi.it hm HF.out.1 (by have:=HF.out.2;have:=uq.out;omega)) (λc pre X Y hi hm=>hi.it hm (by have:=HF.out;have:=uq.out;omega)) ?h0
      (λa x a' W=>∃ b,W.heap[b]? = some (.cells x.2.fix.cells.toArray 24 (0,0))/\a' = { tmps:=((a.tmps.setIfInBounds 50 x.1).setIfInBounds 51 x.2.fix.val).setIfInBounds 13 (.pointer (some ⟨b,0,none⟩)),defers:=[] }) ?hAx ?assign ?body ?done ?stop
     case h0=>exact⟨⟨_,by have:=HST.out;rw[YW]at this;exact this⟩,by have:=acd.out;exact this,ace.out,rfl⟩
     case hAx =>
      rintro x a' X l' o o' ⟨b,hb,rfl⟩ hl' ho;exact⟨b,by rw[World.putObj_heap_other (λe=>by subst e;rw[hb]at hl';cases hl';cases ho)];exact hb,rfl⟩
     case assign =>
      intro l' pre x W K hi hK;obtain⟨xp,xn⟩:=x;obtain⟨zk,zn,zs,za,zm,zc,zl,hfx,hft⟩:=ae.Rl xn;simp only[hfx]at hK ⊢;have HK:=ł (hK _ (W.alloc (.cells #[.int .u8 zk,.int .i64 zn,.string zs,.slice za zm zc] 24)) ((Mv.refl _ _).alloc _) (wI.it (B:=w9.heap.size) hi ((Mv.refl _ _).alloc _) HF.out.1 (by have:=HF.out.2;have:=uq.out;omega)) ⟨W.heap.size,heap_alloc_new W _,rfl⟩);clear hK hi;simp only[ae.val];simp only[List.setIfInBounds_toArray,List.set_cons_zero,List.set_cons_succ,ae.val]at HK
      gi_wp2
      exact HK.out
     case body =>
      rintro l' pre x a' W hi ⟨b,hb,rfl⟩ hsp;obtain⟨xp,xn⟩:=x;obtain⟨zk,zn,zs,za,zm,zc,zl,hfx,hft⟩:=ae.Rl xn;simp only[hfx,ae.val,ae.cells]at hb ⊢;obtain⟨⟨sv,hst⟩,hmp,hbx,hcl⟩:=hi;obtain⟨⟨n0,n1⟩,n2,n3⟩:=aC hb;have hlb:=lt_of_block hb;clear hb;simp only[List.setIfInBounds_toArray,List.set_cons_zero,List.set_cons_succ];rcases(show zk=54\/zk=55\/(zk≠54/\zk≠55)from by omega)with hz|hz|⟨hz1,hz2⟩
      · subst hz;have hga:Grow W (W.alloc (.cells #[.string zs,.int .u8 1,.int .i64 0] 50)):=(Mv.refl _ _).alloc _;have hva:=heap_alloc_new W (.cells #[.string zs,.int .u8 1,.int .i64 0] 50);have qX:=hmp.keep (w':=(W.alloc (.cells #[.string zs,.int .u8 1,.int .i64 0] 50))) (Below.heap_alloc _ _ _ hmp.lt);have hl:=run_get Tryz.iA Tryz.underlying89 zs (.bool false) Tryz.BZ qX;rw[KR]at hl;have ik:=ł (show(came (pre ++ [(xp,xn)])).any (clash l)=(l.any λv=>v.name == zs)from by
         rw[yD,List.any_append,hcl,hft];simp[clash,ae.t,Tree.kind,Tree.name])
        have FK:=ł (show fB l (came (pre ++ [(xp,xn)]))=if(au (fB l (came pre)) zs 1).isSome then fB l (came pre)else lH (fB l (came pre)) ⟨zs,1,0⟩from by
         rw[yD,KS,hft];rfl)
        obtain⟨y0,y1,y2⟩:=cK hva;have lV:=lt_of_block hva;have ct:=cell1 hbx.t;have hlt2:=lt_of_block hbx.t;have bA:=ł hst;have cZ:=ł hbx;have oD:=ł hmp;clear hst hbx hmp;generalize hq:(l.any λv=>v.name == zs)=q at *;cases q with
        |true =>
         obtain⟨u0,u1,u2⟩:=cK cZ.out.r;have ue:=cell1 cZ.out.e;have hlr:=lt_of_block cZ.out.r;have hle:=lt_of_block cZ.out.e;have zr:=aG cZ.out.r;have ze:=aG cZ.out.e;obtain⟨hf1,hf2,hf3⟩:=Cg (a' := .slice none 0 0) (b' := .int .i64 0) (c' := .int .i64 0) (d' := .int .i64 22) cZ.out.r cZ.out.e (by omega);have iE:=ł (aS hf1 (.cells #[.string zs,.int .u8 1,.int .i64 0] 50));have kg:=ł (aS hf2 (.cells #[.string zs,.int .u8 1,.int .i64 0] 50));have gL:=ł (show Grow w _ from(Mv.trans bA.out.g hf3 (λb e => .inr (by omega))).alloc (.cells #[.string zs,.int .u8 1,.int .i64 0] 50));have rH:=ł (show ny kY w9.heap.size W _ from(hf3.mono (λb e => .inl (show ¬ (wN kY W b\/(w9.heap.size<=b/\Cf W b))from by
          rintro(⟨cs,t,z,hc,ht⟩|⟨hb,-⟩)
          · rcases e with rfl|rfl
            · rw[cZ.out.r]at hc;simp at hc;rw[← hc.2.1]at ht;exact absurd ht (by decide)
            · rw[cZ.out.e]at hc;simp at hc;rw[← hc.2.1]at ht;exact absurd ht (by decide)
          · have:=HF.out;have:=uq.out;rcases e with rfl|rfl <;> omega))).alloc (.cells #[.string zs,.int .u8 1,.int .i64 0] 50))
         clear hf1 hf2 hf3 qX hga hva
         gi_wp2
         exact⟨rH.out,rfl,⟨iE.out,kg.out⟩,gL.out,ik.out⟩
        |false =>
         obtain⟨sa,sc,hsv⟩:=gF bA.out.row;subst hsv;obtain⟨f0,f1,f2⟩:=cK bA.out.blk;have hlf:=lt_of_block bA.out.blk;have HC:=ł (oZ (.slice sa (fB l (came pre)).slots.length sc) (fB l (came pre)) zs 1 (W.alloc (.cells #[.string zs,.int .u8 1,.int .i64 0] 50)) ⟨fI (λ_=>rfl) (bA.out.grow hga).row⟩);have xU:=ł hva;have aM:=ł hga;clear qX hga hva
         gi_wp2
         refine⟨trivial,(CallsIn.inRound l' (callsIn_wide.2 HC.out)).mono ?_⟩;clear HC y0 y1 y2 lV ct hlt2 f0 f1 f2 hlf hl n0 n1 n2 n3 hlb;rintro e W3 ⟨rfl,hg3⟩;have aH:=ł (gtr aM.out hg3);have hv3:=ai xU.out hg3;clear hg3;generalize au (fB l (came pre)) zs 1=r at *;generalize r.getD noSlot=sd at *;obtain⟨q1,q2,q3,q4⟩:=sd;have hg4:Grow W (W3.alloc (.cells #[.string q1,.int .u8 q2,.int .i64 q3,.int .i64 q4] 95)):=aH.out.alloc _;have aP:=ł hg4;have qM:=ł (bA.out.grow hg4);cases hr:r.isSome with
         |true =>
          have yj:=ł (show wI w l k n s (.slice ka ls.length kc) F (pre ++ [(xp,xn)]) (W3.alloc (.cells #[.string q1,.int .u8 q2,.int .i64 q3,.int .i64 q4] 95))from
           ⟨⟨_,by rw[FK.out,if_pos hr];exact qM.out⟩,oD.out.keep (hg4.block _ oD.out.lt (λe=>e)),cZ.out.mv hg4 (λ_ _ e=>e),ik.out⟩)
          have rH:=ł (show ny kY w9.heap.size W (W3.alloc (.cells #[.string q1,.int .u8 q2,.int .i64 q3,.int .i64 q4] 95))from hg4.mono (λ_ e=>e.elim));clear hg4 hv3 hr
          gi_wp2
          exact⟨rH.out,yj.out⟩
         |false =>
          have hbd:=RU l (came pre) EM.out;have hn:(came pre).length<=900:=by
           have h1:=hsp.length_le;rw[yD,Le]at h1;have:=HS.out;simp at h1;omega
          have HC:=ł (Ld w F _ _ (fB l (came pre)) ⟨zs,1,0⟩ qM.out (by
           obtain⟨⟨⟨b1,b2⟩,⟨b3,b4⟩,b5⟩,b6'⟩:=hbd;exact⟨by omega,⟨by omega,by omega⟩,⟨by omega,by omega⟩,by simp⟩))
          simp only[bu.val]at HC;obtain⟨y0,y1,y2⟩:=cK hv3;have lV:=lt_of_block hv3;have MW:=ł (show fB l (came (pre ++ [(xp,xn)]))=lH (fB l (came pre)) ⟨zs,1,0⟩from by rw[FK.out,if_neg (by rw[hr];decide)]);clear hg4 hbd hn
          gi_wp2
          refine⟨trivial,(CallsIn.inRound l' (callsIn_wide.2 HC.out)).mono ?_⟩;clear HC y0 y1 y2 lV hv3 hr;rintro e W5 ⟨rfl,BF,vR,mW⟩;have yj:=ł (show wI w l k n s (.slice ka ls.length kc) F (pre ++ [(xp,xn)]) W5 from
           ⟨⟨BF,by rw[MW.out];exact vR⟩,(oD.out.keep (aP.out.block _ oD.out.lt (λe=>e))).add qM.out mW (by omega),(cZ.out.mv aP.out (λ_ _ e=>e)).add qM.out mW HF.out.1 (by omega),ik.out⟩)
          have rH:=ł (show ny kY w9.heap.size W W5 from(aP.out.mono (λ_ e=>e.elim)).trans mW (λb e => .inl (show ¬ (wN kY W b\/(w9.heap.size<=b/\Cf W b))from by
           have hty:∃ cs t z,W.heap[b]? = some (.cells cs t z)/\kY t=true:=by
            rcases e with rfl|e
            · exact⟨_,_,_,bA.out.blk,by decide⟩
            · obtain⟨-,cs,z,hc⟩:=tJ bA.out.row b e;exact⟨cs,_,z,hc,by decide⟩
           obtain⟨cs,t,z,hc,ht⟩:=hty;rintro(⟨cs',t',z',hc',ht'⟩|⟨-,o,ho,hn⟩)
           · rw[hc]at hc';simp only[Option.some.injEq,Obj.cells.injEq]at hc';obtain⟨-,rfl,-⟩:=hc';rw[ht]at ht';cases ht'
           · rw[hc]at ho;cases ho;cases hn)))
          clear vR mW
          gi_wp2
          exact⟨rH.out,yj.out⟩
      · subst hz;have hga:Grow W (W.alloc (.cells #[.string zs,.int .u8 3,.int .i64 0] 50)):=(Mv.refl _ _).alloc _;have hva:=heap_alloc_new W (.cells #[.string zs,.int .u8 3,.int .i64 0] 50);have qX:=hmp.keep (w':=(W.alloc (.cells #[.string zs,.int .u8 3,.int .i64 0] 50))) (Below.heap_alloc _ _ _ hmp.lt);have hl:=run_get Tryz.iA Tryz.underlying89 zs (.bool false) Tryz.BZ qX;rw[KR]at hl;have ik:=ł (show(came (pre ++ [(xp,xn)])).any (clash l)=(l.any λv=>v.name == zs)from by
         rw[yD,List.any_append,hcl,hft];simp[clash,ae.t,Tree.kind,Tree.name])
        have FK:=ł (show fB l (came (pre ++ [(xp,xn)]))=if(au (fB l (came pre)) zs 3).isSome then fB l (came pre)else lH (fB l (came pre)) ⟨zs,3,0⟩from by
         rw[yD,KS,hft];rfl)
        obtain⟨y0,y1,y2⟩:=cK hva;have lV:=lt_of_block hva;have ct:=cell1 hbx.t;have hlt2:=lt_of_block hbx.t;have bA:=ł hst;have cZ:=ł hbx;have oD:=ł hmp;clear hst hbx hmp;generalize hq:(l.any λv=>v.name == zs)=q at *;cases q with
        |true =>
         obtain⟨u0,u1,u2⟩:=cK cZ.out.r;have ue:=cell1 cZ.out.e;have hlr:=lt_of_block cZ.out.r;have hle:=lt_of_block cZ.out.e;have zr:=aG cZ.out.r;have ze:=aG cZ.out.e;obtain⟨hf1,hf2,hf3⟩:=Cg (a' := .slice none 0 0) (b' := .int .i64 0) (c' := .int .i64 0) (d' := .int .i64 22) cZ.out.r cZ.out.e (by omega);have iE:=ł (aS hf1 (.cells #[.string zs,.int .u8 3,.int .i64 0] 50));have kg:=ł (aS hf2 (.cells #[.string zs,.int .u8 3,.int .i64 0] 50));have gL:=ł (show Grow w _ from(Mv.trans bA.out.g hf3 (λb e => .inr (by omega))).alloc (.cells #[.string zs,.int .u8 3,.int .i64 0] 50));have rH:=ł (show ny kY w9.heap.size W _ from(hf3.mono (λb e => .inl (show ¬ (wN kY W b\/(w9.heap.size<=b/\Cf W b))from by
          rintro(⟨cs,t,z,hc,ht⟩|⟨hb,-⟩)
          · rcases e with rfl|rfl
            · rw[cZ.out.r]at hc;simp at hc;rw[← hc.2.1]at ht;exact absurd ht (by decide)
            · rw[cZ.out.e]at hc;simp at hc;rw[← hc.2.1]at ht;exact absurd ht (by decide)
          · have:=HF.out;have:=uq.out;rcases e with rfl|rfl <;> omega))).alloc (.cells #[.string zs,.int .u8 3,.int .i64 0] 50))
         clear hf1 hf2 hf3 qX hga hva
         gi_wp2
         exact⟨rH.out,rfl,⟨iE.out,kg.out⟩,gL.out,ik.out⟩
        |false =>
         obtain⟨sa,sc,hsv⟩:=gF bA.out.row;subst hsv;obtain⟨f0,f1,f2⟩:=cK bA.out.blk;have hlf:=lt_of_block bA.out.blk;have HC:=ł (oZ (.slice sa (fB l (came pre)).slots.length sc) (fB l (came pre)) zs 3 (W.alloc (.cells #[.string zs,.int .u8 3,.int .i64 0] 50)) ⟨fI (λ_=>rfl) (bA.out.grow hga).row⟩);have xU:=ł hva;have aM:=ł hga;clear qX hga hva
         gi_wp2
         refine⟨trivial,(CallsIn.inRound l' (callsIn_wide.2 HC.out)).mono ?_⟩;clear HC y0 y1 y2 lV ct hlt2 f0 f1 f2 hlf hl n0 n1 n2 n3 hlb;rintro e W3 ⟨rfl,hg3⟩;have aH:=ł (gtr aM.out hg3);have hv3:=ai xU.out hg3;clear hg3;generalize au (fB l (came pre)) zs 3=r at *;generalize r.getD noSlot=sd at *;obtain⟨q1,q2,q3,q4⟩:=sd;have hg4:Grow W (W3.alloc (.cells #[.string q1,.int .u8 q2,.int .i64 q3,.int .i64 q4] 95)):=aH.out.alloc _;have aP:=ł hg4;have qM:=ł (bA.out.grow hg4);cases hr:r.isSome with
         |true =>
          have yj:=ł (show wI w l k n s (.slice ka ls.length kc) F (pre ++ [(xp,xn)]) (W3.alloc (.cells #[.string q1,.int .u8 q2,.int .i64 q3,.int .i64 q4] 95))from
           ⟨⟨_,by rw[FK.out,if_pos hr];exact qM.out⟩,oD.out.keep (hg4.block _ oD.out.lt (λe=>e)),cZ.out.mv hg4 (λ_ _ e=>e),ik.out⟩)
          have rH:=ł (show ny kY w9.heap.size W (W3.alloc (.cells #[.string q1,.int .u8 q2,.int .i64 q3,.int .i64 q4] 95))from hg4.mono (λ_ e=>e.elim));clear hg4 hv3 hr
          gi_wp2
          exact⟨rH.out,yj.out⟩
         |false =>
          have hbd:=RU l (came pre) EM.out;have hn:(came pre).length<=900:=by
           have h1:=hsp.length_le;rw[yD,Le]at h1;have:=HS.out;simp at h1;omega
          have HC:=ł (Ld w F _ _ (fB l (came pre)) ⟨zs,3,0⟩ qM.out (by
           obtain⟨⟨⟨b1,b2⟩,⟨b3,b4⟩,b5⟩,b6'⟩:=hbd;exact⟨by omega,⟨by omega,by omega⟩,⟨by omega,by omega⟩,by simp⟩))
          simp only[bu.val]at HC;obtain⟨y0,y1,y2⟩:=cK hv3;have lV:=lt_of_block hv3;have MW:=ł (show fB l (came (pre ++ [(xp,xn)]))=lH (fB l (came pre)) ⟨zs,3,0⟩from by rw[FK.out,if_neg (by rw[hr];decide)]);clear hg4 hbd hn
          gi_wp2
          refine⟨trivial,(CallsIn.inRound l' (callsIn_wide.2 HC.out)).mono ?_⟩;clear HC y0 y1 y2 lV hv3 hr;rintro e W5 ⟨rfl,BF,vR,mW⟩;have yj:=ł (show wI w l k n s (.slice ka ls.length kc) F (pre ++ [(xp,xn)]) W5 from
           ⟨⟨BF,by rw[MW.out];exact vR⟩,(oD.out.keep (aP.out.block _ oD.out.lt (λe=>e))).add qM.out mW (by omega),(cZ.out.mv aP.out (λ_ _ e=>e)).add qM.out mW HF.out.1 (by omega),ik.out⟩)
          have rH:=ł (show ny kY w9.heap.size W W5 from(aP.out.mono (λ_ e=>e.elim)).trans mW (λb e => .inl (show ¬ (wN kY W b\/(w9.heap.size<=b/\Cf W b))from by
           have hty:∃ cs t z,W.heap[b]? = some (.cells cs t z)/\kY t=true:=by
            rcases e with rfl|e
            · exact⟨_,_,_,bA.out.blk,by decide⟩
            · obtain⟨-,cs,z,hc⟩:=tJ bA.out.row b e;exact⟨cs,_,z,hc,by decide⟩
           obtain⟨cs,t,z,hc,ht⟩:=hty;rintro(⟨cs',t',z',hc',ht'⟩|⟨-,o,ho,hn⟩)
           · rw[hc]at hc';simp only[Option.some.injEq,Obj.cells.injEq]at hc';obtain⟨-,rfl,-⟩:=hc';rw[ht]at ht';cases ht'
           · rw[hc]at ho;cases ho;cases hn)))
          clear vR mW
          gi_wp2
          exact⟨rH.out,yj.out⟩
      · have e1:(zk == 54)=false:=by simpa using hz1
        have e2:(zk == 55)=false:=by simpa using hz2
        have yj:=ł (show wI w l k n s (.slice ka ls.length kc) F (pre ++ [(xp,xn)]) (W.alloc (.cells #[.string zs,.int .u8 0,.int .i64 0] 50))from by
         have hg:Grow W (W.alloc (.cells #[.string zs,.int .u8 0,.int .i64 0] 50)):=(Mv.refl _ _).alloc _;have ho:fB l (came (pre ++ [(xp,xn)]))=fB l (came pre):=by
          rw[yD,KS,hft];simp[addNode,ae.t,Tree.kind,hz1,hz2]
         refine⟨⟨sv,by rw[ho];exact hst.grow hg⟩,hmp.keep (hg.block _ hmp.lt (λe=>e)),hbx.mv hg (λ_ _ e=>e),?_⟩;rw[yD,List.any_append,hcl,hft];simp[clash,ae.t,Tree.kind,hz1,hz2])
        have rH:=ł (show ny kY w9.heap.size W (W.alloc (.cells #[.string zs,.int .u8 0,.int .i64 0] 50))from(Mv.refl _ _).alloc _);clear hst hmp hbx hcl hz1 hz2 hft
        gi_wp2
        exact⟨rH.out,yj.out⟩
     case done =>
      intro D xs W hD hS hi hK;obtain⟨⟨sv,hst⟩,hmp,hbx,hcl⟩:=hi;obtain⟨sa,sc,hsv⟩:=gF hst.row;subst hsv;have hof:fB l (came xs)=zP l (ae.t (.mk k n s (.slice ka ls.length kc) ls)):=by rw[hS];rfl
      have qg:=ł (show nH l (ae.t (.mk k n s (.slice ka ls.length kc) ls))=0 from by
       simp only[nH,OM.out,if_true,Wi.out];rw[if_neg (by decide),← hS,hcl];rfl)
      obtain⟨f0,f1,f2⟩:=cK hst.blk;have hlf:=lt_of_block hst.blk;obtain⟨u0,u1,u2⟩:=cK hbx.r;have ue:=cell1 hbx.e;have hlr:=lt_of_block hbx.r;have hle:=lt_of_block hbx.e;have zr:=aG hbx.r;have ze:=aG hbx.e;have hne1:w.heap.size+1≠D:=by have:=HF.out;have:=uq.out;omega
      have hne2:w.heap.size+1+1≠D:=by have:=HF.out;have:=uq.out;omega
      obtain⟨hf1,hf2,hf3⟩:=Cg (a' := .slice sa (fB l (came xs)).slots.length sc) (b' := .int .i64 (fB l (came xs)).cells) (c' := .int .i64 (fB l (came xs)).stacks) (d' := .int .i64 0) hbx.r hbx.e (by omega);have hrow:=bg hst.row hf3 (λg hg e=>by
       rcases e with rfl|rfl
       · exact dK hst.row hbx.r (by decide) hg
       · exact dK hst.row hbx.e (by decide) hg)
      have iE:=ł hf1;have kg:=ł hf2;have gL:=ł (show Grow w _ from Mv.trans hst.g hf3 (λb e => .inr (by omega)));have dQ:=ł hrow;have FL:=ł (show fE _ (.slice sa (fB l (came xs)).slots.length sc) (fB l (came xs))from⟨fI (λ_=>rfl) hrow⟩);have Wj:=(hf3.block D (Array.getElem?_eq_some_iff.1 hK).1 (λe=>by rcases e with e|e;exact hne1 e.symm;exact hne2 e.symm)).trans hK;have uL:=ł Wj;clear hf1 hf2 hf3 hrow Wj hst hmp hbx hcl hK hS;rw[hof]at iE kg gL FL uL dQ;go_wp2_with fail;have hn1:w.heap.size+1≠D:=hne1;have g1:=(World.putObj_heap_other (o := .deferred none) (hne1)).trans iE.out;have g2:=(World.putObj_heap_other (o := .deferred none) (hne2)).trans kg.out;obtain⟨t0,t1,t2⟩:=cK g1;have te:=cell1 g2;refine Qe uL.out (v := .tuple #[.agg #[.slice sa (zP l (ae.t (.mk k n s (.slice ka ls.length kc) ls))).slots.length sc,.int .i64 (zP l (ae.t (.mk k n s (.slice ka ls.length kc) ls))).cells,.int .i64 (zP l (ae.t (.mk k n s (.slice ka ls.length kc) ls))).stacks],.int .i64 0]) (by simp[results,Tryz.results14,go_sem,t0,t1,t2,te]) rfl ⟨_,by rw[qg.out];rfl,?_,?_⟩
      · rw[qg.out];exact⟨FL.out.row.stay (Mv.putObj (O:=λb=>b=D) _ D _ rfl) (λg hg e=>by
         obtain⟨-,cs,z,hc⟩:=tJ dQ.out g hg;subst e;rw[uL.out]at hc;cases hc)⟩
      · exact Mv.trans gL.out (Mv.putObj (O:=λb=>b=D) _ D _ rfl) (λb e => .inr (by subst e;have:=HF.out;have:=uq.out;have:=mI.out.size;omega))
     case stop =>
      rintro D c xs W hD hS ⟨rfl,⟨hf1,hf2⟩,hgf,hcl⟩ hK;have iE:=ł hf1;have kg:=ł hf2;have gL:=ł hgf;have qg:=ł (show nH l (ae.t (.mk k n s (.slice ka ls.length kc) ls))=22 from by
       simp only[nH,OM.out,if_true,Wi.out];rw[if_neg (by decide),if_pos];obtain⟨t,ht,hct⟩:=List.any_eq_true.1 hcl;exact List.any_eq_true.2 ⟨t,hS.subset ht,hct⟩)
      have hne1:w.heap.size+1≠D:=by have:=HF.out;have:=uq.out;omega
      have hne2:w.heap.size+1+1≠D:=by have:=HF.out;have:=uq.out;omega
      have uL:=ł hK;clear hf1 hf2 hgf hK hcl hS;go_wp2_with fail;have g1:=(World.putObj_heap_other (o := .deferred none) (hne1)).trans iE.out;have g2:=(World.putObj_heap_other (o := .deferred none) (hne2)).trans kg.out;obtain⟨t0,t1,t2⟩:=cK g1;have te:=cell1 g2;refine Qe uL.out (v := .tuple #[.agg #[.slice none 0 0,.int .i64 0,.int .i64 0],.int .i64 22]) (by simp[results,Tryz.results14,go_sem,t0,t1,t2,te]) rfl ⟨.slice none 0 0,by rw[qg.out];rfl,by rw[qg.out];exact Gs _,?_⟩;exact Mv.trans gL.out (Mv.putObj (O:=λb=>b=D) _ D _ rfl) (λb e => .inr (by subst e;have:=HF.out;have:=uq.out;have:=mI.out.size;omega))
theorem ZG (l:List bu):zP l (.mk 57 0 ⟨#[]⟩ [])=frameC l:=rfl
theorem YX (l:List bu):nH l (.mk 57 0 ⟨#[]⟩ [])=jf l:=by
 unfold nH jf;rw[show bF (.mk 57 0 ⟨#[]⟩ [])=true from by simp[bF,wO,eZ,ByteArray.size],Bool.and_true,show(jF (.mk 57 0 ⟨#[]⟩ [])).any (clash l)=false from by simp[jF,lM,clash,Tree.kind]];simp
theorem ZH (w:World):aR w (.mk 57 0 ⟨#[]⟩ (.slice none 0 0) []) := .mk (by decide) (by simp[In64]) (by simp[ByteArray.size]) (az.nil _ _ _) (by simp)
theorem G8:vO:=λv l w h=>by
 have:=aaT v l (.mk 57 0 ⟨#[]⟩ (.slice none 0 0) []) w h (ZH w) (by simp[ae.t,ae.ts,aI,cu]);refine this.mono ?_;rintro e w' ⟨sv,he,hf,hg⟩;simp only[ae.t,ae.ts,ZG,YX]at he hf;exact⟨sv,he,hf,hg⟩
end Go.Proofs.YtnobahchcongnaaGreatDoor
