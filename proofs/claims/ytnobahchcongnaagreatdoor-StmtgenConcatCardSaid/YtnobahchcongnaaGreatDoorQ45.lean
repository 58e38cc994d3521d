import Derived.Test.YtnobahchcongnaaGreatDoorQ44
import Derived.RangeFuncCalls
import Derived.OwnWalkIn
set_option linter.unusedSimpArgs false
set_option linter.unusedVariables false
set_option maxRecDepth 100000
set_option maxHeartbeats 25600000
namespace Go.Proofs.YtnobahchcongnaaGreatDoor
open Go.RowKit Go.Instr
attribute [local go_sem] Oper.semAt_some
def ky (t:TypeId):Bool:=t == 95 || t == 27 || t == 35
theorem WW:Bz ky:=⟨by decide,by decide,by decide,by decide,by decide⟩
structure uz (w:World) (k n:Int) (s:ByteArray) (kv:Value) (M T:Nat) (x:World):Prop where
 b:x.heap[w.heap.size]? = some (.cells #[.int .u8 k,.int .i64 n,.string s,kv] 24 (0,0))
 r:x.heap[w.heap.size+1]? = some (.cells #[.slice none 0 0,.int .i64 0,.int .i64 0] 27 (0,0))
 e:x.heap[w.heap.size+1+1]? = some (.cells #[.int .i64 0] 35 (0,0))
 t:x.heap[T]? = some (.cells #[.map (some M)] 89 (0,0))
theorem uz.mv {w:World} {k n:Int} {s:ByteArray} {kv:Value} {M T:Nat} {x y:World} {O:Nat→Prop} (h:uz w k n s kv M T x) (hm:Mv O x y) (hO:∀ b,b=w.heap.size∨b=w.heap.size+1∨b=w.heap.size+1+1∨b=T→¬ O b):uz w k n s kv M T y :=
 ⟨(hm.block _ (lt_of_block h.b) (hO _ (.inl rfl))).trans h.b,(hm.block _ (lt_of_block h.r) (hO _ (.inr (.inl rfl)))).trans h.r,(hm.block _ (lt_of_block h.e) (hO _ (.inr (.inr (.inl rfl))))).trans h.e,(hm.block _ (lt_of_block h.t) (hO _ (.inr (.inr (.inr rfl))))).trans h.t⟩
theorem uz.add {w:World} {k n:Int} {s:ByteArray} {kv:Value} {M T F:Nat} {x y:World} {sv:Value} {f:az} (h:uz w k n s kv M T x) (hst:fC w F x sv f) (hm:Mv (fun b=>b=F∨sv.ownBlock=some b) x y) (hF:w.heap.size+1+1<F) (hT:T≠F):uz w k n s kv M T y :=
 h.mv hm (fun b hb e=>by
  rcases e with rfl | e
  · omega
  · rcases hb with rfl | rfl | rfl | rfl
    · exact eX hst.row h.b (by decide) e
    · exact eX hst.row h.r (by decide) e
    · exact eX hst.row h.e (by decide) e
    · exact eX hst.row h.t (by decide) e)
theorem MapAt.add {M F:Nat} {w x y:World} {sv:Value} {f:az} {d:List (ByteArray × Value)} (h:MapAt Value.string x M d) (hst:fC w F x sv f) (hm:Mv (fun b=>b=F∨sv.ownBlock=some b) x y) (hF:M≠F):MapAt Value.string y M d :=
 h.keep (hm.block M h.lt (fun e=>by
  rcases e with e | e
  · exact hF e
  · obtain ⟨-,cs,z,hc⟩:=tT hst.row M e;obtain ⟨es,clock,hb,_⟩:=h;rw [hb] at hc;cases hc))
def uQ (w:World) (l:List bq) (k n:Int) (s:ByteArray) (kv:Value) (F:Nat) (pre:List (Value × ae)) (W:World):Prop :=
 (∃ sv,fC w F W sv (fu l (came pre)))∧MapAt Value.string W (F+1) (yx l)∧uz w k n s kv (F+1) (F+1+1) W∧(came pre).any (clash l)=false
def FZ (w:World) (l:List bq) (c:Code) (pre:List (Value × ae)) (W:World):Prop :=
 c = .ret∧(W.heap[w.heap.size+1]? = some (.cells #[.slice none 0 0,.int .i64 0,.int .i64 0] 27 (0,0))∧W.heap[w.heap.size+1+1]? = some (.cells #[.int .i64 22] 35 (0,0)))∧Grow w W∧(came pre).any (clash l)=true
theorem uQ.it {w:World} {l:List bq} {k n:Int} {s:ByteArray} {kv:Value} {F B:Nat} {pre:List (Value × ae)} {X Y:World} (h:uQ w l k n s kv F pre X) (hm:Aw ky B X Y) (hF:w.heap.size+1+1<F) (hB:F+3≤B):uQ w l k n s kv F pre Y:=by
 obtain ⟨⟨sv,hst⟩,hmp,hbx,hc⟩:=h;have hlow:∀ b,b<B→¬ ¬ GM ky B X b:=fun b hb e=>e (.inl hb);refine ⟨⟨sv,hst.g.trans hm (fun b hb => .inr ?_),(hm.block F (lt_of_block hst.blk) (hlow F (by omega))).trans hst.blk,bQ hst.row hm (fun g hg e => ?_),hst.hF⟩,hmp.keep (hm.block _ hmp.lt (hlow _ (by omega))),hbx.mv hm (fun b hb=>hlow b (by omega)),hc⟩
 · have:¬ b<B:=fun h=>hb (.inl h);omega
 · obtain ⟨-,cs,z,hx⟩:=tT hst.row g hg;exact e (.inr ⟨cs,_,z,hx,rfl⟩)
theorem FZ.it {w:World} {l:List bq} {c:Code} {B:Nat} {pre:List (Value × ae)} {X Y:World} (h:FZ w l c pre X) (hm:Aw ky B X Y) (hB:w.heap.size+1+1<B):FZ w l c pre Y:=by
 obtain ⟨h1,⟨h2,h3⟩,h4,h5⟩:=h;have hlow:∀ b,b<B→¬ ¬ GM ky B X b:=fun b hb e=>e (.inl hb);refine ⟨h1,⟨(hm.block _ (lt_of_block h2) (hlow _ (by omega))).trans h2,(hm.block _ (lt_of_block h3) (hlow _ (by omega))).trans h3⟩,h4.trans hm (fun b hb => .inr ?_),h5⟩;have:¬ b<B:=fun h=>hb (.inl h);omega
theorem Ad {y:World} {R E:Nat} {a b c d a' b' c' d':Value} {t t':TypeId} (hr:y.heap[R]? = some (.cells #[a,b,c] t (0,0))) (he:y.heap[E]? = some (.cells #[d] t' (0,0))) (hne:R≠E) :
 ((((y.setCell ⟨R,0,none⟩ a').setCell ⟨R,1,none⟩ b').setCell ⟨R,2,none⟩ c').setCell ⟨E,0,none⟩ d').heap[R]? = some (.cells #[a',b',c'] t (0,0)) ∧
 ((((y.setCell ⟨R,0,none⟩ a').setCell ⟨R,1,none⟩ b').setCell ⟨R,2,none⟩ c').setCell ⟨E,0,none⟩ d').heap[E]? = some (.cells #[d'] t' (0,0)) ∧
 Mv (fun b=>b=R∨b=E) y ((((y.setCell ⟨R,0,none⟩ a').setCell ⟨R,1,none⟩ b').setCell ⟨R,2,none⟩ c').setCell ⟨E,0,none⟩ d'):=by
 obtain ⟨h1,h2⟩:=JI hr a' b' c';have he2:=(h2.block E (lt_of_block he) (fun e=>hne e.symm)).trans he;obtain ⟨h3,h4⟩:=set1 he2 d';exact ⟨(h4.block R (lt_of_block h1) hne).trans h1,h3,(h2.mono (fun b e => .inl (.inl e))).trans h4 (fun b e => .inl (.inr e))⟩
theorem Eg (w:World):fF w (.slice none 0 0) gU:=⟨ax.nil _ _ _⟩
theorem VZ (l:List bq):frameC l=fu l (came []):=rfl
theorem YR (v:Value) (l:List bq) (x:ae) (w:World) (h:ax 3 bq.cells w v l) (hx:aV w x) (hs:aW x.t≤900) :
 Calls Tryz.prog 14 #[v,x.val] w (OfG w l x.t):=by
 obtain ⟨va,vc,rfl,CX,hvl⟩:=h.form;obtain ⟨k,n,s,kv,ls⟩:=x;obtain ⟨ka,kc,rfl,-,-⟩:=hx.form;have HB0:=ł (show (((w.alloc (.cells #[.int .u8 k,.int .i64 n,.string s,.slice ka ls.length kc] 24)).alloc (.cells #[.slice none 0 0,.int .i64 0,.int .i64 0] 27)).alloc (.cells #[.int .i64 0] 35)).heap[w.heap.size]? = _ from aT (aT (heap_alloc_new w _) _) _);have nT:=ł (show (((w.alloc (.cells #[.int .u8 k,.int .i64 n,.string s,.slice ka ls.length kc] 24)).alloc (.cells #[.slice none 0 0,.int .i64 0,.int .i64 0] 27)).alloc (.cells #[.int .i64 0] 35)).heap[w.heap.size+1]? = some (.cells #[.slice none 0 0,.int .i64 0,.int .i64 0] 27 (0,0)) from aT (by have:=heap_alloc_new (w.alloc (.cells #[.int .u8 k,.int .i64 n,.string s,.slice ka ls.length kc] 24)) (.cells #[.slice none 0 0,.int .i64 0,.int .i64 0] 27);rwa [World.size_alloc] at this) _);have rC:=ł (show (((w.alloc (.cells #[.int .u8 k,.int .i64 n,.string s,.slice ka ls.length kc] 24)).alloc (.cells #[.slice none 0 0,.int .i64 0,.int .i64 0] 27)).alloc (.cells #[.int .i64 0] 35)).heap[w.heap.size+1+1]? = some (.cells #[.int .i64 0] 35 (0,0)) from by have:=heap_alloc_new ((w.alloc (.cells #[.int .u8 k,.int .i64 n,.string s,.slice ka ls.length kc] 24)).alloc (.cells #[.slice none 0 0,.int .i64 0,.int .i64 0] 27)) (.cells #[.int .i64 0] 35);rwa [World.size_alloc,World.size_alloc] at this);have aG:=ł (show Grow w (((w.alloc (.cells #[.int .u8 k,.int .i64 n,.string s,.slice ka ls.length kc] 24)).alloc (.cells #[.slice none 0 0,.int .i64 0,.int .i64 0] 27)).alloc (.cells #[.int .i64 0] 35)) from (((Mv.refl _ w).alloc _).alloc _).alloc _);have iZ:=ł h;have mU:=ł hx;have HS:=ł hs;have Cv:=ł (fun (z:World) (hz:Grow w z)=>Xt _ l z (h.later hz));have HIS:=ł (fun (z:World) (hz:Grow w z)=>Mq (.mk k n s (.slice ka ls.length kc) ls) z (hx.later hz));clear h hx hs;simp only [ae.val] at HIS ⊢;refine Vb Tryz.func14 rfl ?_;simp only [Tryz.ntmps14,List.size_toArray,List.length_cons,List.length_nil,Nat.reduceAdd,Nat.reduceSub,Array.replicate_succ,Array.replicate_zero,List.push_toArray,List.append_toArray,List.nil_append,List.cons_append];go_wp2_with fail;generalize (((w.alloc (.cells #[.int .u8 k,.int .i64 n,.string s,.slice ka ls.length kc] 24)).alloc (.cells #[.slice none 0 0,.int .i64 0,.int .i64 0] 27)).alloc (.cells #[.int .i64 0] 35))=w3 at *;refine (Cv.out _ aG.out).mono ?_;rintro e w4 ⟨a1,n1,c1,a2,n2,c2,a3,n3,c3,rfl,hg4⟩;have aN:=ł hg4;clear hg4 Cv;cases hval:jH l with
 | false =>
  have HE:=ł (show vN l=3 from by simp [vN,hval]);have oL:=ł (show mJ l (ae.t (.mk k n s (.slice ka ls.length kc) ls))=3 from by simp [mJ,hval]);rw [HE.out];have hr:=ai nT.out aN.out;have he:=ai rC.out aN.out;obtain ⟨d0,d1,d2⟩:=cK hr;have ce:=cell1 he;have hlr:=lt_of_block hr;have hle:=lt_of_block he;have zr:=aJ hr;have ze:=aJ he;obtain ⟨hf1,hf2,hf3⟩:=Ad (a' := .slice none 0 0) (b' := .int .i64 0) (c' := .int .i64 0) (d' := .int .i64 3) hr he (by omega);have jJ:=ł (aT hf1 (.cells #[.slice a1 n1 c1,.slice a2 n2 c2,.slice a3 n3 c3] 86));have lL:=ł (aT hf2 (.cells #[.slice a1 n1 c1,.slice a2 n2 c2,.slice a3 n3 c3] 86));have fV:=ł (show Grow w _ from (Mv.trans (gtr aG.out aN.out) hf3 (fun b e => .inr (by omega))).alloc (.cells #[.slice a1 n1 c1,.slice a2 n2 c2,.slice a3 n3 c3] 86));clear hf1 hf2 hf3 hr he hval;go_wp2_with fail;obtain ⟨t0,t1,t2⟩:=cK jJ.out;have te:=cell1 lL.out;exact Ir (v := .tuple #[.agg #[.slice none 0 0,.int .i64 0,.int .i64 0],.int .i64 3]) (by simp [results,Tryz.results14,go_sem,t0,t1,t2,te]) rfl ⟨.slice none 0 0,by rw [oL.out];rfl,by rw [oL.out];exact Eg _,fV.out⟩
 | true =>
  have HE:=ł (show vN l=0 from by simp [vN,hval]);have Cx:=ł hval;rw [HE.out];clear hval;obtain ⟨⟨d0,d1⟩,d2,d3⟩:=aF (ai HB0.out aN.out);have hl0:=lt_of_block (ai HB0.out aN.out);go_wp2_with fail;refine (HIS.out _ (gtr aG.out (aN.out.alloc (.cells #[.slice a1 n1 c1,.slice a2 n2 c2,.slice a3 n3 c3] 86)))).mono ?_;clear d0 d1 d2 d3 hl0 HIS;rintro e w5 ⟨rfl,hg5⟩;have aS:=ł (gtr (aN.out.alloc (.cells #[.slice a1 n1 c1,.slice a2 n2 c2,.slice a3 n3 c3] 86)) hg5);clear hg5;cases hib:dw (ae.t (.mk k n s (.slice ka ls.length kc) ls)) with
  | false =>
   have oL:=ł (show mJ l (ae.t (.mk k n s (.slice ka ls.length kc) ls))=3 from by simp [mJ,hib]);have hr:=ai nT.out aS.out;have he:=ai rC.out aS.out;obtain ⟨d0,d1,d2⟩:=cK hr;have ce:=cell1 he;have hlr:=lt_of_block hr;have hle:=lt_of_block he;have zr:=aJ hr;have ze:=aJ he;obtain ⟨hf1,hf2,hf3⟩:=Ad (a' := .slice none 0 0) (b' := .int .i64 0) (c' := .int .i64 0) (d' := .int .i64 3) hr he (by omega);have jJ:=ł hf1;have lL:=ł hf2;have fV:=ł (show Grow w _ from (Mv.trans (gtr aG.out aS.out) hf3 (fun b e => .inr (by omega))));clear hf1 hf2 hf3 hr he hib;go_wp2_with fail;obtain ⟨t0,t1,t2⟩:=cK jJ.out;have te:=cell1 lL.out;exact Ir (v := .tuple #[.agg #[.slice none 0 0,.int .i64 0,.int .i64 0],.int .i64 3]) (by simp [results,Tryz.results14,go_sem,t0,t1,t2,te]) rfl ⟨.slice none 0 0,by rw [oL.out];rfl,by rw [oL.out];exact Eg _,fV.out⟩
  | true =>
   have eU:=ł hib;have Ls:=ł (show (jH l && dw (ae.t (.mk k n s (.slice ka ls.length kc) ls)))=true from by rw [Cx.out,hib];rfl);clear hib;have hmm := @run_makeMap Tryz.prog;have rH:Grow w5 (((w5.alloc (.cells #[.slice none 0 0,.int .i64 0,.int .i64 0] 27)).alloc (.map #[] 0)).alloc (.cells #[.map (some (w5.heap.size+1))] 89)):=(((Mv.refl _ _).alloc _).alloc _).alloc _;have mi:=ł (gtr (gtr aG.out aS.out) rH);have TC:w.heap.size+1+1<w5.heap.size:=lt_of_block (ai rC.out aS.out);have QR:=ł (show uz w k n s (.slice ka ls.length kc) (w5.heap.size+1) (w5.heap.size+1+1) _ from
    ⟨ai (ai HB0.out aS.out) rH,ai (ai nT.out aS.out) rH,ai (ai rC.out aS.out) rH,by have:=heap_alloc_new ((w5.alloc (.cells #[.slice none 0 0,.int .i64 0,.int .i64 0] 27)).alloc (.map #[] 0)) (.cells #[.map (some (w5.heap.size+1))] 89);rwa [World.size_alloc,World.size_alloc] at this⟩)
   have QS:=ł (show fC w w5.heap.size _ (.slice none 0 0) gU from ⟨mi.out,aT (aT (heap_alloc_new w5 _) _) _,World.ownsRow_nil _ _ _ _,by omega⟩);have TD:=ł (show MapAt Value.string (((w5.alloc (.cells #[.slice none 0 0,.int .i64 0,.int .i64 0] 27)).alloc (.map #[] 0)).alloc (.cells #[.map (some (w5.heap.size+1))] 89)) (w5.heap.size+1) [] from
    (by have:=MapAt.new Value.string (w5.alloc (.cells #[.slice none 0 0,.int .i64 0,.int .i64 0] 27));rw [World.size_alloc] at this;exact this.keep (Below.heap_alloc _ _ _ this.lt)))
   have TE:=ł (show (((w5.alloc (.cells #[.slice none 0 0,.int .i64 0,.int .i64 0] 27)).alloc (.map #[] 0)).alloc (.cells #[.map (some (w5.heap.size+1))] 89)).heap.size=w5.heap.size+3 from by simp);have yU:=ł TC;clear rH TC HB0 nT rC;go_wp2_with fail;generalize (((w5.alloc (.cells #[.slice none 0 0,.int .i64 0,.int .i64 0] 27)).alloc (.map #[] 0)).alloc (.cells #[.map (some (w5.heap.size+1))] 89))=w8 at *;clear hmm;have HF:=ł (show w.heap.size+1+1<w5.heap.size∧w5.heap.size+3=w8.heap.size from ⟨yU.out,TE.out.symm⟩);clear yU TE;generalize w5.heap.size=F at *;clear aS aN aG HE;generalize w4.heap.size=b6 at *;clear w5 w4 w3
   go_loopw [33] (fun t wr=>∃ (j:Nat) (sv:Value),t = .int .i64 j∧j≤l.length∧tZ [] l=tZ ((l.take j).map bq.name) (l.drop j)∧fC w F wr sv (frameC (l.take j))∧MapAt Value.string wr (F+1) (yx (l.take j))∧uz w k n s (.slice ka ls.length kc) (F+1) (F+1+1) wr∧w8.heap.size≤wr.heap.size) (fun t _=>l.length - (intOf t).toNat)
   case atStart=>exact ⟨0,_,rfl,Nat.zero_le _,rfl,QS.out,TD.out,QR.out,Nat.le_refl _⟩
   obtain ⟨j,sv,rfl,hj,hdup,hst,hmp,hbx,hsz⟩:=hrel;have F3:=ł hdup;have HST:=ł hst;have di:=ł hbx;have iU:=ł hsz;have hgw:=hst.g;clear hst hbx hsz QS TD QR hdup;by_cases hlt:j<l.length
   · obtain ⟨b,off,cap',e,_,hcc⟩:=(iZ.out.later hgw).at hlt;simp only [Value.slice.injEq,true_and] at e;obtain ⟨rfl,rfl⟩:=e;have c0:=hcc 0 _ rfl;have c1:=hcc 1 _ rfl;have c2:=hcc 2 _ rfl;have CR:=ł (XZ l j hlt);have HDT:=ł (VX l j hlt);have HFT:=ł (Vd l j hlt);have hbd:=Mg l j Cx.out;have mV:=ł hbd;have yR:l[j].okB=true:=by
      have:=Cx.out;simp only [jH,Bool.and_eq_true] at this;exact List.all_eq_true.1 this.2 _ (List.getElem_mem hlt)
     have TF:=ł (show 0≤l[j].len∧l[j].len≤100000 from by
      simp only [bq.okB,si] at yR;split at yR
      · have:l[j].len=0:=by simpa using yR
        omega
      · split at yR
        · simp at yR;omega
        · cases yR)
     clear yR hbd;generalize l[j]=x at *;obtain ⟨xs,xk,xn⟩:=x;simp only [Nat.add_zero] at c0 c1 c2 TF;have hbl:b<wr.heap.size:=World.block_lt_of_cell? wr _ c0;have pQ:=hmp.keep (w':=wr.alloc (.cells #[.string xs,.int .u8 xk,.int .i64 xn] 50)) (Below.heap_alloc _ _ _ hmp.lt);have hl:=run_get Tryz.gB Tryz.underlying89 xs (.bool false) Tryz.zV pQ;rw [Iu] at hl;have ct:=cell1 di.out.t;have hlt2:=lt_of_block di.out.t;generalize hq:((l.take j).any fun v=>v.name == xs)=q at *;cases q with
     | true =>
      have oL:=ł (show mJ l (ae.t (.mk k n s (.slice ka ls.length kc) ls))=22 from by
       simp only [mJ,Ls.out,if_true];rw [if_pos (by rw [F3.out,CR.out];rfl)])
      obtain ⟨d0,d1,d2⟩:=cK di.out.r;have ce:=cell1 di.out.e;have hlr:=lt_of_block di.out.r;have hle:=lt_of_block di.out.e;have zr:=aJ di.out.r;have ze:=aJ di.out.e;obtain ⟨hf1,hf2,hf3⟩:=Ad (a' := .slice none 0 0) (b' := .int .i64 0) (c' := .int .i64 0) (d' := .int .i64 22) di.out.r di.out.e (by omega);have jJ:=ł (aT hf1 (.cells #[.string xs,.int .u8 xk,.int .i64 xn] 50));have lL:=ł (aT hf2 (.cells #[.string xs,.int .u8 xk,.int .i64 xn] 50));have fV:=ł (show Grow w _ from (Mv.trans hgw hf3 (fun b e => .inr (by omega))).alloc (.cells #[.string xs,.int .u8 xk,.int .i64 xn] 50));clear hf1 hf2 hf3 hcc hmp pQ hgw;go_wp2_with fail;obtain ⟨t0,t1,t2⟩:=cK jJ.out;have te:=cell1 lL.out;exact Ir (v := .tuple #[.agg #[.slice none 0 0,.int .i64 0,.int .i64 0],.int .i64 22]) (by simp [results,Tryz.results14,go_sem,t0,t1,t2,te]) rfl ⟨.slice none 0 0,by rw [oL.out];rfl,by rw [oL.out];exact Eg _,fV.out⟩
     | false =>
      have hga:Grow wr (wr.alloc (.cells #[.string xs,.int .u8 xk,.int .i64 xn] 50)):=(Mv.refl _ _).alloc _;have hva:=heap_alloc_new wr (.cells #[.string xs,.int .u8 xk,.int .i64 xn] 50);obtain ⟨w6,hup,QT,Cy⟩:=run_set Tryz.gB Tryz.underlying89 xs (.bool true) pQ;have jo:=pQ;obtain ⟨es,clock,hmo,-⟩:=jo;have hne:∀ {b:Nat} {cs:Array Value} {t:TypeId} {z:Nat × Nat},(wr.alloc (.cells #[.string xs,.int .u8 xk,.int .i64 xn] 50)).heap[b]? = some (.cells cs t z)→w6.heap[b]? = some (.cells cs t z):=fun {b cs t z} hb=>by
       rw [Cy.block b (lt_of_block hb) (fun e=>by subst e;rw [hmo] at hb;cases hb)];exact hb
      have Kc:fC w F w6 sv (frameC (l.take j)):=by
       have h0:=HST.out.grow hga;refine ⟨h0.g.trans Cy (fun b e => .inr (by have:=h0.hF;omega)),hne h0.blk,bQ h0.row Cy (fun g hg e => ?_),h0.hF⟩;obtain ⟨-,cs,z,hc⟩:=tT h0.row g hg;subst e;rw [hmo] at hc;cases hc
      have QU:uz w k n s (.slice ka ls.length kc) (F+1) (F+1+1) w6:=by
       have h0:=di.out.mv hga (fun _ _ e=>e);exact ⟨hne h0.b,hne h0.r,hne h0.e,hne h0.t⟩
      have hv6:=hne hva;obtain ⟨y0,y1,y2⟩:=cK hv6;have mf:=lt_of_block hv6;have yQ:=ł (IU w F w6 sv (frameC (l.take j)) ⟨xs,xk,xn⟩ Kc (by
       obtain ⟨⟨⟨b1,b2⟩,⟨b3,b4⟩,b5⟩,b6⟩:=mV.out;have:=TF.out;exact ⟨by omega,⟨by omega,by omega⟩,⟨by omega,by omega⟩,by simpa using this⟩))
      have QV:=ł Kc;have Z9:=ł QU;have _d:=ł QT;have _e:=ł (show w8.heap.size≤w6.heap.size from by have:=Cy.size;have:=hga.size;have:=iU.out;omega);clear hcc hmp pQ hgw Kc QU QT hne Cy hmo hga hva hv6;simp only [bq.val] at yQ;go_wp2_with fail;refine yQ.out.mono ?_;clear hl hup y0 y1 y2 mf ct hlt2 c0 c1 c2 hbl yQ;rintro e w7 ⟨rfl,zI,QW,F4⟩;have _i:=ł QW;have _j:=ł (Z9.out.add QV.out F4 HF.out.1 (by omega));have _k:=ł (_d.out.add QV.out F4 (by omega));have _l:=ł (show w8.heap.size≤w7.heap.size from by have:=F4.size;have:=_e.out;omega);clear QW F4;go_wp2_with fail
      go_roundw
      case rel=>exact ⟨j+1,zI,by go_num,by omega,by rw [F3.out,CR.out];rfl,by rw [HFT.out];exact _i.out,by rw [HDT.out];exact _k.out,_j.out,_l.out⟩
      case measure=>(simp [intOf] <;> omega)
   · obtain rfl:j=l.length:=by omega
     have P7:tZ [] l=false:=by rw [F3.out,List.drop_length];rfl
     have hst:=HST.out;rw [List.take_length] at hst hmp;have nH:=ł hmp;have QX:=ł hst;have TG:=ł P7;have HW:=ł (XY (.mk k n s (.slice ka ls.length kc) ls) wr (mU.out.later hgw) (by have:=HS.out;omega));simp only [ae.val] at HW;obtain ⟨⟨d0,d1⟩,d2,d3⟩:=aF di.out.b;have hl0:=lt_of_block di.out.b;clear hmp hst P7 HST F3 hgw;go_wp2_with fail;refine HW.out.mono ?_;clear d0 d1 d2 d3 hl0 HW;rintro e w9 ⟨R,y,rfl,hrb,hno,wL,rJ⟩;have HST:=ł (QX.out.grow rJ);have _o:=ł (nH.out.keep (rJ.block _ nH.out.lt (fun e=>e)));have _q:=ł (di.out.mv rJ (fun _ _ e=>e));have sD:=ł (show w8.heap.size≤w9.heap.size from by have:=iU.out;have:=rJ.size;omega);have GQ:=ł (XX ky WW R y w9 hrb hno (by rw [wL];have:=HS.out;omega));rw [wL] at GQ;clear hrb hno rJ nH di iU QX;go_wp2_with fail;refine Uj ky (gf:=66) (lb:=#[.pointer (some ⟨R,0,none⟩)]) rfl (enters_of Tryz.func66 (by kernel_rfl) rfl) GQ.out (Mv.refl _ _) (fun _=>rfl)
      (uQ w l k n s (.slice ka ls.length kc) F) (FZ w l) (fun pre X Y hi hm=>hi.it hm HF.out.1 (by have:=HF.out.2;have:=sD.out;omega)) (fun c pre X Y hi hm=>hi.it hm (by have:=HF.out;have:=sD.out;omega)) ?h0
      (fun a x a' W=>∃ b,W.heap[b]? = some (.cells x.2.fix.cells.toArray 24 (0,0))∧a' = { tmps:=((a.tmps.setIfInBounds 50 x.1).setIfInBounds 51 x.2.fix.val).setIfInBounds 13 (.pointer (some ⟨b,0,none⟩)),defers:=[] }) ?hAx ?assign ?body ?done ?stop
     case h0=>exact ⟨⟨_,by have:=HST.out;rw [VZ] at this;exact this⟩,by have:=_o.out;exact this,_q.out,rfl⟩
     case hAx =>
      rintro x a' X l' o o' ⟨b,hb,rfl⟩ hl' ho;exact ⟨b,by rw [World.putObj_heap_other (fun e=>by subst e;rw [hb] at hl';cases hl';cases ho)];exact hb,rfl⟩
     case assign =>
      intro l' pre x W K hi hK;obtain ⟨xp,xn⟩:=x;obtain ⟨zk,zn,zs,za,zm,zc,zl,hfx,hft⟩:=ae.Ou xn;simp only [hfx] at hK ⊢;have HK:=ł (hK _ (W.alloc (.cells #[.int .u8 zk,.int .i64 zn,.string zs,.slice za zm zc] 24)) ((Mv.refl _ _).alloc _) (uQ.it (B:=w9.heap.size) hi ((Mv.refl _ _).alloc _) HF.out.1 (by have:=HF.out.2;have:=sD.out;omega)) ⟨W.heap.size,heap_alloc_new W _,rfl⟩);clear hK hi;simp only [ae.val];simp only [List.setIfInBounds_toArray,List.set_cons_zero,List.set_cons_succ,ae.val] at HK
      gi_wp2
      exact HK.out
     case body =>
      rintro l' pre x a' W hi ⟨b,hb,rfl⟩ hsp;obtain ⟨xp,xn⟩:=x;obtain ⟨zk,zn,zs,za,zm,zc,zl,hfx,hft⟩:=ae.Ou xn;simp only [hfx,ae.val,ae.cells] at hb ⊢;obtain ⟨⟨sv,hst⟩,hmp,hbx,hcl⟩:=hi;obtain ⟨⟨n0,n1⟩,n2,n3⟩:=aF hb;have hlb:=lt_of_block hb;clear hb;simp only [List.setIfInBounds_toArray,List.set_cons_zero,List.set_cons_succ];rcases (show zk=54∨zk=55∨(zk≠54∧zk≠55) from by omega) with hz | hz | ⟨hz1,hz2⟩
      · subst hz;have hga:Grow W (W.alloc (.cells #[.string zs,.int .u8 1,.int .i64 0] 50)):=(Mv.refl _ _).alloc _;have hva:=heap_alloc_new W (.cells #[.string zs,.int .u8 1,.int .i64 0] 50);have pQ:=hmp.keep (w':=(W.alloc (.cells #[.string zs,.int .u8 1,.int .i64 0] 50))) (Below.heap_alloc _ _ _ hmp.lt);have hl:=run_get Tryz.gB Tryz.underlying89 zs (.bool false) Tryz.zV pQ;rw [Iu] at hl;have jT:=ł (show (came (pre ++ [(xp,xn)])).any (clash l)=(l.any fun v=>v.name == zs) from by
         rw [wR,List.any_append,hcl,hft];simp [clash,ae.t,Tree.kind,Tree.name])
        have Dy:=ł (show fu l (came (pre ++ [(xp,xn)]))=if (au (fu l (came pre)) zs 1).isSome then fu l (came pre) else kR (fu l (came pre)) ⟨zs,1,0⟩ from by
         rw [wR,Iw,hft];rfl)
        obtain ⟨y0,y1,y2⟩:=cK hva;have mf:=lt_of_block hva;have ct:=cell1 hbx.t;have hlt2:=lt_of_block hbx.t;have aU:=ł hst;have di:=ł hbx;have nH:=ł hmp;clear hst hbx hmp;generalize hq:(l.any fun v=>v.name == zs)=q at *;cases q with
        | true =>
         obtain ⟨u0,u1,u2⟩:=cK di.out.r;have ue:=cell1 di.out.e;have hlr:=lt_of_block di.out.r;have hle:=lt_of_block di.out.e;have zr:=aJ di.out.r;have ze:=aJ di.out.e;obtain ⟨hf1,hf2,hf3⟩:=Ad (a' := .slice none 0 0) (b' := .int .i64 0) (c' := .int .i64 0) (d' := .int .i64 22) di.out.r di.out.e (by omega);have jJ:=ł (aT hf1 (.cells #[.string zs,.int .u8 1,.int .i64 0] 50));have lL:=ł (aT hf2 (.cells #[.string zs,.int .u8 1,.int .i64 0] 50));have fV:=ł (show Grow w _ from (Mv.trans aU.out.g hf3 (fun b e => .inr (by omega))).alloc (.cells #[.string zs,.int .u8 1,.int .i64 0] 50));have qm:=ł (show mD ky w9.heap.size W _ from (hf3.mono (fun b e => .inl (show ¬ (uU ky W b∨(w9.heap.size≤b∧Ac W b)) from by
          rintro (⟨cs,t,z,hc,ht⟩ | ⟨hb,-⟩)
          · rcases e with rfl | rfl
            · rw [di.out.r] at hc;simp at hc;rw [← hc.2.1] at ht;exact absurd ht (by decide)
            · rw [di.out.e] at hc;simp at hc;rw [← hc.2.1] at ht;exact absurd ht (by decide)
          · have:=HF.out;have:=sD.out;rcases e with rfl | rfl <;> omega))).alloc (.cells #[.string zs,.int .u8 1,.int .i64 0] 50))
         clear hf1 hf2 hf3 pQ hga hva
         gi_wp2
         exact ⟨qm.out,rfl,⟨jJ.out,lL.out⟩,fV.out,jT.out⟩
        | false =>
         obtain ⟨sa,sc,hsv⟩:=gz aU.out.row;subst hsv;obtain ⟨f0,f1,f2⟩:=cK aU.out.blk;have hlf:=lt_of_block aU.out.blk;have HC:=ł (nX (.slice sa (fu l (came pre)).slots.length sc) (fu l (came pre)) zs 1 (W.alloc (.cells #[.string zs,.int .u8 1,.int .i64 0] 50)) ⟨gP (fun _=>rfl) (aU.out.grow hga).row⟩);have wD:=ł hva;have aA:=ł hga;clear pQ hga hva
         gi_wp2
         refine ⟨trivial,(CallsIn.inRound l' (callsIn_wide.2 HC.out)).mono ?_⟩;clear HC y0 y1 y2 mf ct hlt2 f0 f1 f2 hlf hl n0 n1 n2 n3 hlb;rintro e W3 ⟨rfl,hg3⟩;have aG:=ł (gtr aA.out hg3);have hv3:=ai wD.out hg3;clear hg3;generalize au (fu l (came pre)) zs 1=r at *;generalize r.getD noSlot=sd at *;obtain ⟨q1,q2,q3,q4⟩:=sd;have hg4:Grow W (W3.alloc (.cells #[.string q1,.int .u8 q2,.int .i64 q3,.int .i64 q4] 95)):=aG.out.alloc _;have aN:=ł hg4;have pE:=ł (aU.out.grow hg4);cases hr:r.isSome with
         | true =>
          have wM:=ł (show uQ w l k n s (.slice ka ls.length kc) F (pre ++ [(xp,xn)]) (W3.alloc (.cells #[.string q1,.int .u8 q2,.int .i64 q3,.int .i64 q4] 95)) from
           ⟨⟨_,by rw [Dy.out,if_pos hr];exact pE.out⟩,nH.out.keep (hg4.block _ nH.out.lt (fun e=>e)),di.out.mv hg4 (fun _ _ e=>e),jT.out⟩)
          have qm:=ł (show mD ky w9.heap.size W (W3.alloc (.cells #[.string q1,.int .u8 q2,.int .i64 q3,.int .i64 q4] 95)) from hg4.mono (fun _ e=>e.elim));clear hg4 hv3 hr
          gi_wp2
          exact ⟨qm.out,wM.out⟩
         | false =>
          have hbd:=O4 l (came pre) Cx.out;have hn:(came pre).length≤900:=by
           have h1:=hsp.length_le;rw [wR,IW] at h1;have:=HS.out;simp at h1;omega
          have HC:=ł (IU w F _ _ (fu l (came pre)) ⟨zs,1,0⟩ pE.out (by
           obtain ⟨⟨⟨b1,b2⟩,⟨b3,b4⟩,b5⟩,b6'⟩:=hbd;exact ⟨by omega,⟨by omega,by omega⟩,⟨by omega,by omega⟩,by simp⟩))
          simp only [bq.val] at HC;obtain ⟨y0,y1,y2⟩:=cK hv3;have mf:=lt_of_block hv3;have Ke:=ł (show fu l (came (pre ++ [(xp,xn)]))=kR (fu l (came pre)) ⟨zs,1,0⟩ from by rw [Dy.out,if_neg (by rw [hr];decide)]);clear hg4 hbd hn
          gi_wp2
          refine ⟨trivial,(CallsIn.inRound l' (callsIn_wide.2 HC.out)).mono ?_⟩;clear HC y0 y1 y2 mf hv3 hr;rintro e W5 ⟨rfl,zI,uy,oC⟩;have wM:=ł (show uQ w l k n s (.slice ka ls.length kc) F (pre ++ [(xp,xn)]) W5 from
           ⟨⟨zI,by rw [Ke.out];exact uy⟩,(nH.out.keep (aN.out.block _ nH.out.lt (fun e=>e))).add pE.out oC (by omega),(di.out.mv aN.out (fun _ _ e=>e)).add pE.out oC HF.out.1 (by omega),jT.out⟩)
          have qm:=ł (show mD ky w9.heap.size W W5 from (aN.out.mono (fun _ e=>e.elim)).trans oC (fun b e => .inl (show ¬ (uU ky W b∨(w9.heap.size≤b∧Ac W b)) from by
           have hty:∃ cs t z,W.heap[b]? = some (.cells cs t z)∧ky t=true:=by
            rcases e with rfl | e
            · exact ⟨_,_,_,aU.out.blk,by decide⟩
            · obtain ⟨-,cs,z,hc⟩:=tT aU.out.row b e;exact ⟨cs,_,z,hc,by decide⟩
           obtain ⟨cs,t,z,hc,ht⟩:=hty;rintro (⟨cs',t',z',hc',ht'⟩ | ⟨-,o,ho,hn⟩)
           · rw [hc] at hc';simp only [Option.some.injEq,Obj.cells.injEq] at hc';obtain ⟨-,rfl,-⟩:=hc';rw [ht] at ht';cases ht'
           · rw [hc] at ho;cases ho;cases hn)))
          clear uy oC
          gi_wp2
          exact ⟨qm.out,wM.out⟩
      · subst hz;have hga:Grow W (W.alloc (.cells #[.string zs,.int .u8 3,.int .i64 0] 50)):=(Mv.refl _ _).alloc _;have hva:=heap_alloc_new W (.cells #[.string zs,.int .u8 3,.int .i64 0] 50);have pQ:=hmp.keep (w':=(W.alloc (.cells #[.string zs,.int .u8 3,.int .i64 0] 50))) (Below.heap_alloc _ _ _ hmp.lt);have hl:=run_get Tryz.gB Tryz.underlying89 zs (.bool false) Tryz.zV pQ;rw [Iu] at hl;have jT:=ł (show (came (pre ++ [(xp,xn)])).any (clash l)=(l.any fun v=>v.name == zs) from by
         rw [wR,List.any_append,hcl,hft];simp [clash,ae.t,Tree.kind,Tree.name])
        have Dy:=ł (show fu l (came (pre ++ [(xp,xn)]))=if (au (fu l (came pre)) zs 3).isSome then fu l (came pre) else kR (fu l (came pre)) ⟨zs,3,0⟩ from by
         rw [wR,Iw,hft];rfl)
        obtain ⟨y0,y1,y2⟩:=cK hva;have mf:=lt_of_block hva;have ct:=cell1 hbx.t;have hlt2:=lt_of_block hbx.t;have aU:=ł hst;have di:=ł hbx;have nH:=ł hmp;clear hst hbx hmp;generalize hq:(l.any fun v=>v.name == zs)=q at *;cases q with
        | true =>
         obtain ⟨u0,u1,u2⟩:=cK di.out.r;have ue:=cell1 di.out.e;have hlr:=lt_of_block di.out.r;have hle:=lt_of_block di.out.e;have zr:=aJ di.out.r;have ze:=aJ di.out.e;obtain ⟨hf1,hf2,hf3⟩:=Ad (a' := .slice none 0 0) (b' := .int .i64 0) (c' := .int .i64 0) (d' := .int .i64 22) di.out.r di.out.e (by omega);have jJ:=ł (aT hf1 (.cells #[.string zs,.int .u8 3,.int .i64 0] 50));have lL:=ł (aT hf2 (.cells #[.string zs,.int .u8 3,.int .i64 0] 50));have fV:=ł (show Grow w _ from (Mv.trans aU.out.g hf3 (fun b e => .inr (by omega))).alloc (.cells #[.string zs,.int .u8 3,.int .i64 0] 50));have qm:=ł (show mD ky w9.heap.size W _ from (hf3.mono (fun b e => .inl (show ¬ (uU ky W b∨(w9.heap.size≤b∧Ac W b)) from by
          rintro (⟨cs,t,z,hc,ht⟩ | ⟨hb,-⟩)
          · rcases e with rfl | rfl
            · rw [di.out.r] at hc;simp at hc;rw [← hc.2.1] at ht;exact absurd ht (by decide)
            · rw [di.out.e] at hc;simp at hc;rw [← hc.2.1] at ht;exact absurd ht (by decide)
          · have:=HF.out;have:=sD.out;rcases e with rfl | rfl <;> omega))).alloc (.cells #[.string zs,.int .u8 3,.int .i64 0] 50))
         clear hf1 hf2 hf3 pQ hga hva
         gi_wp2
         exact ⟨qm.out,rfl,⟨jJ.out,lL.out⟩,fV.out,jT.out⟩
        | false =>
         obtain ⟨sa,sc,hsv⟩:=gz aU.out.row;subst hsv;obtain ⟨f0,f1,f2⟩:=cK aU.out.blk;have hlf:=lt_of_block aU.out.blk;have HC:=ł (nX (.slice sa (fu l (came pre)).slots.length sc) (fu l (came pre)) zs 3 (W.alloc (.cells #[.string zs,.int .u8 3,.int .i64 0] 50)) ⟨gP (fun _=>rfl) (aU.out.grow hga).row⟩);have wD:=ł hva;have aA:=ł hga;clear pQ hga hva
         gi_wp2
         refine ⟨trivial,(CallsIn.inRound l' (callsIn_wide.2 HC.out)).mono ?_⟩;clear HC y0 y1 y2 mf ct hlt2 f0 f1 f2 hlf hl n0 n1 n2 n3 hlb;rintro e W3 ⟨rfl,hg3⟩;have aG:=ł (gtr aA.out hg3);have hv3:=ai wD.out hg3;clear hg3;generalize au (fu l (came pre)) zs 3=r at *;generalize r.getD noSlot=sd at *;obtain ⟨q1,q2,q3,q4⟩:=sd;have hg4:Grow W (W3.alloc (.cells #[.string q1,.int .u8 q2,.int .i64 q3,.int .i64 q4] 95)):=aG.out.alloc _;have aN:=ł hg4;have pE:=ł (aU.out.grow hg4);cases hr:r.isSome with
         | true =>
          have wM:=ł (show uQ w l k n s (.slice ka ls.length kc) F (pre ++ [(xp,xn)]) (W3.alloc (.cells #[.string q1,.int .u8 q2,.int .i64 q3,.int .i64 q4] 95)) from
           ⟨⟨_,by rw [Dy.out,if_pos hr];exact pE.out⟩,nH.out.keep (hg4.block _ nH.out.lt (fun e=>e)),di.out.mv hg4 (fun _ _ e=>e),jT.out⟩)
          have qm:=ł (show mD ky w9.heap.size W (W3.alloc (.cells #[.string q1,.int .u8 q2,.int .i64 q3,.int .i64 q4] 95)) from hg4.mono (fun _ e=>e.elim));clear hg4 hv3 hr
          gi_wp2
          exact ⟨qm.out,wM.out⟩
         | false =>
          have hbd:=O4 l (came pre) Cx.out;have hn:(came pre).length≤900:=by
           have h1:=hsp.length_le;rw [wR,IW] at h1;have:=HS.out;simp at h1;omega
          have HC:=ł (IU w F _ _ (fu l (came pre)) ⟨zs,3,0⟩ pE.out (by
           obtain ⟨⟨⟨b1,b2⟩,⟨b3,b4⟩,b5⟩,b6'⟩:=hbd;exact ⟨by omega,⟨by omega,by omega⟩,⟨by omega,by omega⟩,by simp⟩))
          simp only [bq.val] at HC;obtain ⟨y0,y1,y2⟩:=cK hv3;have mf:=lt_of_block hv3;have Ke:=ł (show fu l (came (pre ++ [(xp,xn)]))=kR (fu l (came pre)) ⟨zs,3,0⟩ from by rw [Dy.out,if_neg (by rw [hr];decide)]);clear hg4 hbd hn
          gi_wp2
          refine ⟨trivial,(CallsIn.inRound l' (callsIn_wide.2 HC.out)).mono ?_⟩;clear HC y0 y1 y2 mf hv3 hr;rintro e W5 ⟨rfl,zI,uy,oC⟩;have wM:=ł (show uQ w l k n s (.slice ka ls.length kc) F (pre ++ [(xp,xn)]) W5 from
           ⟨⟨zI,by rw [Ke.out];exact uy⟩,(nH.out.keep (aN.out.block _ nH.out.lt (fun e=>e))).add pE.out oC (by omega),(di.out.mv aN.out (fun _ _ e=>e)).add pE.out oC HF.out.1 (by omega),jT.out⟩)
          have qm:=ł (show mD ky w9.heap.size W W5 from (aN.out.mono (fun _ e=>e.elim)).trans oC (fun b e => .inl (show ¬ (uU ky W b∨(w9.heap.size≤b∧Ac W b)) from by
           have hty:∃ cs t z,W.heap[b]? = some (.cells cs t z)∧ky t=true:=by
            rcases e with rfl | e
            · exact ⟨_,_,_,aU.out.blk,by decide⟩
            · obtain ⟨-,cs,z,hc⟩:=tT aU.out.row b e;exact ⟨cs,_,z,hc,by decide⟩
           obtain ⟨cs,t,z,hc,ht⟩:=hty;rintro (⟨cs',t',z',hc',ht'⟩ | ⟨-,o,ho,hn⟩)
           · rw [hc] at hc';simp only [Option.some.injEq,Obj.cells.injEq] at hc';obtain ⟨-,rfl,-⟩:=hc';rw [ht] at ht';cases ht'
           · rw [hc] at ho;cases ho;cases hn)))
          clear uy oC
          gi_wp2
          exact ⟨qm.out,wM.out⟩
      · have e1:(zk == 54)=false:=by simpa using hz1
        have e2:(zk == 55)=false:=by simpa using hz2
        have wM:=ł (show uQ w l k n s (.slice ka ls.length kc) F (pre ++ [(xp,xn)]) (W.alloc (.cells #[.string zs,.int .u8 0,.int .i64 0] 50)) from by
         have hg:Grow W (W.alloc (.cells #[.string zs,.int .u8 0,.int .i64 0] 50)):=(Mv.refl _ _).alloc _;have ho:fu l (came (pre ++ [(xp,xn)]))=fu l (came pre):=by
          rw [wR,Iw,hft];simp [addNode,ae.t,Tree.kind,hz1,hz2]
         refine ⟨⟨sv,by rw [ho];exact hst.grow hg⟩,hmp.keep (hg.block _ hmp.lt (fun e=>e)),hbx.mv hg (fun _ _ e=>e),?_⟩;rw [wR,List.any_append,hcl,hft];simp [clash,ae.t,Tree.kind,hz1,hz2])
        have qm:=ł (show mD ky w9.heap.size W (W.alloc (.cells #[.string zs,.int .u8 0,.int .i64 0] 50)) from (Mv.refl _ _).alloc _);clear hst hmp hbx hcl hz1 hz2 hft
        gi_wp2
        exact ⟨qm.out,wM.out⟩
     case done =>
      intro D xs W hD hS hi hK;obtain ⟨⟨sv,hst⟩,hmp,hbx,hcl⟩:=hi;obtain ⟨sa,sc,hsv⟩:=gz hst.row;subst hsv;have hof:fu l (came xs)=xS l (ae.t (.mk k n s (.slice ka ls.length kc) ls)):=by rw [hS];rfl
      have oL:=ł (show mJ l (ae.t (.mk k n s (.slice ka ls.length kc) ls))=0 from by
       simp only [mJ,Ls.out,if_true,TG.out];rw [if_neg (by decide),← hS,hcl];rfl)
      obtain ⟨f0,f1,f2⟩:=cK hst.blk;have hlf:=lt_of_block hst.blk;obtain ⟨u0,u1,u2⟩:=cK hbx.r;have ue:=cell1 hbx.e;have hlr:=lt_of_block hbx.r;have hle:=lt_of_block hbx.e;have zr:=aJ hbx.r;have ze:=aJ hbx.e;have hne1:w.heap.size+1≠D:=by have:=HF.out;have:=sD.out;omega
      have hne2:w.heap.size+1+1≠D:=by have:=HF.out;have:=sD.out;omega
      obtain ⟨hf1,hf2,hf3⟩:=Ad (a' := .slice sa (fu l (came xs)).slots.length sc) (b' := .int .i64 (fu l (came xs)).cells) (c' := .int .i64 (fu l (came xs)).stacks) (d' := .int .i64 0) hbx.r hbx.e (by omega);have hrow:=bQ hst.row hf3 (fun g hg e=>by
       rcases e with rfl | rfl
       · exact eX hst.row hbx.r (by decide) hg
       · exact eX hst.row hbx.e (by decide) hg)
      have jJ:=ł hf1;have lL:=ł hf2;have fV:=ł (show Grow w _ from Mv.trans hst.g hf3 (fun b e => .inr (by omega)));have bZ:=ł hrow;have A8:=ł (show fF _ (.slice sa (fu l (came xs)).slots.length sc) (fu l (came xs)) from ⟨gP (fun _=>rfl) hrow⟩);have TH:=(hf3.block D (Array.getElem?_eq_some_iff.1 hK).1 (fun e=>by rcases e with e | e;exact hne1 e.symm;exact hne2 e.symm)).trans hK;have tu:=ł TH;clear hf1 hf2 hf3 hrow TH hst hmp hbx hcl hK hS;rw [hof] at jJ lL fV A8 tu bZ;go_wp2_with fail;have hn1:w.heap.size+1≠D:=hne1;have g1:=(World.putObj_heap_other (o := .deferred none) (hne1)).trans jJ.out;have g2:=(World.putObj_heap_other (o := .deferred none) (hne2)).trans lL.out;obtain ⟨t0,t1,t2⟩:=cK g1;have te:=cell1 g2;refine MU tu.out (v := .tuple #[.agg #[.slice sa (xS l (ae.t (.mk k n s (.slice ka ls.length kc) ls))).slots.length sc,.int .i64 (xS l (ae.t (.mk k n s (.slice ka ls.length kc) ls))).cells,.int .i64 (xS l (ae.t (.mk k n s (.slice ka ls.length kc) ls))).stacks],.int .i64 0]) (by simp [results,Tryz.results14,go_sem,t0,t1,t2,te]) rfl ⟨_,by rw [oL.out];rfl,?_,?_⟩
      · rw [oL.out];exact ⟨A8.out.row.stay (Mv.putObj (O:=fun b=>b=D) _ D _ rfl) (fun g hg e=>by
         obtain ⟨-,cs,z,hc⟩:=tT bZ.out g hg;subst e;rw [tu.out] at hc;cases hc)⟩
      · exact Mv.trans fV.out (Mv.putObj (O:=fun b=>b=D) _ D _ rfl) (fun b e => .inr (by subst e;have:=HF.out;have:=sD.out;have:=mi.out.size;omega))
     case stop =>
      rintro D c xs W hD hS ⟨rfl,⟨hf1,hf2⟩,hgf,hcl⟩ hK;have jJ:=ł hf1;have lL:=ł hf2;have fV:=ł hgf;have oL:=ł (show mJ l (ae.t (.mk k n s (.slice ka ls.length kc) ls))=22 from by
       simp only [mJ,Ls.out,if_true,TG.out];rw [if_neg (by decide),if_pos];obtain ⟨t,ht,hct⟩:=List.any_eq_true.1 hcl;exact List.any_eq_true.2 ⟨t,hS.subset ht,hct⟩)
      have hne1:w.heap.size+1≠D:=by have:=HF.out;have:=sD.out;omega
      have hne2:w.heap.size+1+1≠D:=by have:=HF.out;have:=sD.out;omega
      have tu:=ł hK;clear hf1 hf2 hgf hK hcl hS;go_wp2_with fail;have g1:=(World.putObj_heap_other (o := .deferred none) (hne1)).trans jJ.out;have g2:=(World.putObj_heap_other (o := .deferred none) (hne2)).trans lL.out;obtain ⟨t0,t1,t2⟩:=cK g1;have te:=cell1 g2;refine MU tu.out (v := .tuple #[.agg #[.slice none 0 0,.int .i64 0,.int .i64 0],.int .i64 22]) (by simp [results,Tryz.results14,go_sem,t0,t1,t2,te]) rfl ⟨.slice none 0 0,by rw [oL.out];rfl,by rw [oL.out];exact Eg _,?_⟩;exact Mv.trans fV.out (Mv.putObj (O:=fun b=>b=D) _ D _ rfl) (fun b e => .inr (by subst e;have:=HF.out;have:=sD.out;have:=mi.out.size;omega))
theorem WX (l:List bq):xS l (.mk 57 0 ⟨#[]⟩ [])=frameC l:=rfl
theorem V3 (l:List bq):mJ l (.mk 57 0 ⟨#[]⟩ [])=iE l:=by
 unfold mJ iE;rw [show dw (.mk 57 0 ⟨#[]⟩ [])=true from by simp [dw,uV,bY,ByteArray.size],Bool.and_true,show (je (.mk 57 0 ⟨#[]⟩ [])).any (clash l)=false from by simp [je,kW,clash,Tree.kind]];simp
theorem WY (w:World):aV w (.mk 57 0 ⟨#[]⟩ (.slice none 0 0) []) := .mk (by decide) (by simp [In64]) (by simp [ByteArray.size]) (ax.nil _ _ _) (by simp)
theorem EE:uq:=fun v l w h=>by
 have:=YR v l (.mk 57 0 ⟨#[]⟩ (.slice none 0 0) []) w h (WY w) (by simp [ae.t,ae.ts,aW,cu]);refine this.mono ?_;rintro e w' ⟨sv,he,hf,hg⟩;simp only [ae.t,ae.ts,WX,V3] at he hf;exact ⟨sv,he,hf,hg⟩
end Go.Proofs.YtnobahchcongnaaGreatDoor
