import Derived.Test.YtnobahchcongnaaGreatF41
import Derived.RangeFuncCalls
import Derived.OwnWalkIn
set_option linter.unusedSimpArgs false
set_option linter.unusedVariables false
set_option maxRecDepth 100000
set_option maxHeartbeats 25600000
namespace Go.Proofs.YtnobahchcongnaaGreat
open Go.RowKit Go.Instr
attribute [local go_sem] Oper.semAt_some
def kX (_:Nat) (t:TypeId):Bool:=t == 81 || t == 38 || t == 39
theorem Yw (n0:Nat):vT kX n0:=⟨λ_=>rfl,λ_ _=>rfl,λ_=>rfl,λ_=>rfl,λ_=>rfl⟩
structure uP (w:World) (k n:Int) (s:ByteArray) (kv:Value) (M T:Nat) (x:World):Prop where
 b:x.heap[w.heap.size]? = some (.cells #[.int .u8 k,.int .i64 n,.string s,kv] 26 (0,0))
 r:x.heap[w.heap.size+1]? = some (.cells #[.slice none 0 0,.int .i64 0,.int .i64 0] 38 (0,0))
 e:x.heap[w.heap.size+1+1]? = some (.cells #[.int .i64 0] 39 (0,0))
 t:x.heap[T]? = some (.cells #[.map (some M)] 78 (0,0))
theorem uP.mv {w:World} {k n:Int} {s:ByteArray} {kv:Value} {M T:Nat} {x y:World} {O:Nat->Prop} (h:uP w k n s kv M T x) (hm:Mv O x y) (hO:∀ b,b=w.heap.size\/b=w.heap.size+1\/b=w.heap.size+1+1\/b=T->¬ O b):uP w k n s kv M T y :=
 ⟨(hm.block _ (lt_of_block h.b) (hO _ (.inl rfl))).trans h.b,(hm.block _ (lt_of_block h.r) (hO _ (.inr (.inl rfl)))).trans h.r,(hm.block _ (lt_of_block h.e) (hO _ (.inr (.inr (.inl rfl))))).trans h.e,(hm.block _ (lt_of_block h.t) (hO _ (.inr (.inr (.inr rfl))))).trans h.t⟩
theorem uP.add {w:World} {k n:Int} {s:ByteArray} {kv:Value} {M T F:Nat} {x y:World} {sv:Value} {f:az} (h:uP w k n s kv M T x) (hst:eY w F x sv f) (hm:Mv (λb=>b=F\/sv.ownBlock=some b) x y) (hF:w.heap.size+1+1<F) (hT:T≠F):uP w k n s kv M T y :=
 h.mv hm (λb hb e=>by
  rcases e with rfl|e
  · omega
  · rcases hb with rfl|rfl|rfl|rfl
    · exact eO hst.row h.b (by decide) e
    · exact eO hst.row h.r (by decide) e
    · exact eO hst.row h.e (by decide) e
    · exact eO hst.row h.t (by decide) e)
theorem MapAt.add {M F:Nat} {w x y:World} {sv:Value} {f:az} {d:List (ByteArray × Value)} (h:MapAt Value.string x M d) (hst:eY w F x sv f) (hm:Mv (λb=>b=F\/sv.ownBlock=some b) x y) (hF:M≠F):MapAt Value.string y M d :=
 h.keep (hm.block M h.lt (λe=>by
  rcases e with e|e
  · exact hF e
  · obtain⟨-,cs,z,hc⟩:=oW hst.row M e;obtain⟨es,clock,hb,_⟩:=h;rw[hb]at hc;cases hc))
def vJ (w:World) (l:List aA) (k n:Int) (s:ByteArray) (kv:Value) (F:Nat) (pre:List (Value × ae)) (W:World):Prop :=
 (∃ sv,eY w F W sv (eG l (came pre)))/\MapAt Value.string W (F+1) (yY l)/\uP w k n s kv (F+1) (F+1+1) W/\(came pre).any (clash l)=false
def Gh (w:World) (l:List aA) (c:Code) (pre:List (Value × ae)) (W:World):Prop :=
 c = .ret/\(W.heap[w.heap.size+1]? = some (.cells #[.slice none 0 0,.int .i64 0,.int .i64 0] 38 (0,0))/\W.heap[w.heap.size+1+1]? = some (.cells #[.int .i64 22] 39 (0,0)))/\Grow w W/\(came pre).any (clash l)=true
theorem vJ.it {w:World} {l:List aA} {k n:Int} {s:ByteArray} {kv:Value} {F B:Nat} {pre:List (Value × ae)} {X Y:World} (h:vJ w l k n s kv F pre X) (hm:uO kX B X Y) (hF:w.heap.size+1+1<F) (hB:F+3<=B):vJ w l k n s kv F pre Y:=by
 obtain⟨⟨sv,hst⟩,hmp,hbx,hc⟩:=h;have hlow:∀ b,b<B->¬ ¬ Ho kX B X b:=λb hb e=>e (.inl hb);refine⟨⟨sv,hst.g.trans hm (λb hb => .inr ?_),(hm.block F (lt_of_block hst.blk) (hlow F (by omega))).trans hst.blk,bM hst.row hm (λg hg e => ?_),hst.hF⟩,hmp.keep (hm.block _ hmp.lt (hlow _ (by omega))),hbx.mv hm (λb hb=>hlow b (by omega)),hc⟩
 · have:¬ b<B:=λh=>hb (.inl h);omega
 · obtain⟨-,cs,z,hx⟩:=oW hst.row g hg;exact e (.inr ⟨cs,_,z,hx,rfl⟩)
theorem Gh.it {w:World} {l:List aA} {c:Code} {B:Nat} {pre:List (Value × ae)} {X Y:World} (h:Gh w l c pre X) (hm:uO kX B X Y) (hB:w.heap.size+1+1<B):Gh w l c pre Y:=by
 obtain⟨h1,⟨h2,h3⟩,h4,h5⟩:=h;have hlow:∀ b,b<B->¬ ¬ Ho kX B X b:=λb hb e=>e (.inl hb);refine⟨h1,⟨(hm.block _ (lt_of_block h2) (hlow _ (by omega))).trans h2,(hm.block _ (lt_of_block h3) (hlow _ (by omega))).trans h3⟩,h4.trans hm (λb hb => .inr ?_),h5⟩;have:¬ b<B:=λh=>hb (.inl h);omega
theorem AQ {y:World} {R E:Nat} {a b c d a' b' c' d':Value} {t t':TypeId} (hr:y.heap[R]? = some (.cells #[a,b,c] t (0,0))) (he:y.heap[E]? = some (.cells #[d] t' (0,0))) (hne:R≠E) :
 ((((y.setCell ⟨R,0,none⟩ a').setCell ⟨R,1,none⟩ b').setCell ⟨R,2,none⟩ c').setCell ⟨E,0,none⟩ d').heap[R]? = some (.cells #[a',b',c'] t (0,0)) /\
 ((((y.setCell ⟨R,0,none⟩ a').setCell ⟨R,1,none⟩ b').setCell ⟨R,2,none⟩ c').setCell ⟨E,0,none⟩ d').heap[E]? = some (.cells #[d'] t' (0,0)) /\
 Mv (λb=>b=R\/b=E) y ((((y.setCell ⟨R,0,none⟩ a').setCell ⟨R,1,none⟩ b').setCell ⟨R,2,none⟩ c').setCell ⟨E,0,none⟩ d'):=by
 obtain⟨h1,h2⟩:=Cz hr a' b' c';have he2:=(h2.block E (lt_of_block he) (λe=>hne e.symm)).trans he;obtain⟨h3,h4⟩:=set1 he2 d';exact⟨(h4.block R (lt_of_block h1) hne).trans h1,h3,(h2.mono (λb e => .inl (.inl e))).trans h4 (λb e => .inl (.inr e))⟩
theorem EA (w:World):fV w (.slice none 0 0) iI:=⟨ax.nil _ _ _⟩
theorem XG (l:List aA):frameC l=eG l (came []):=rfl
theorem QR (v:Value) (l:List aA) (x:ae) (w:World) (h:ax 3 aA.cells w v l) (hx:aS w x) (hs:bA x.t<=900) :
 Calls Tryz.prog 8 #[v,x.val] w (UQ w l x.t):=by
 obtain⟨va,vc,rfl,oC,hvl⟩:=h.form;obtain⟨k,n,s,kv,ls⟩:=x;obtain⟨ka,kc,rfl,-,-⟩:=hx.form;have HB0:=ł (show(((w.alloc (.cells #[.int .u8 k,.int .i64 n,.string s,.slice ka ls.length kc] 26)).alloc (.cells #[.slice none 0 0,.int .i64 0,.int .i64 0] 38)).alloc (.cells #[.int .i64 0] 39)).heap[w.heap.size]? = _ from aO (aO (heap_alloc_new w _) _) _);have qZ:=ł (show(((w.alloc (.cells #[.int .u8 k,.int .i64 n,.string s,.slice ka ls.length kc] 26)).alloc (.cells #[.slice none 0 0,.int .i64 0,.int .i64 0] 38)).alloc (.cells #[.int .i64 0] 39)).heap[w.heap.size+1]? = some (.cells #[.slice none 0 0,.int .i64 0,.int .i64 0] 38 (0,0))from aO (by have:=heap_alloc_new (w.alloc (.cells #[.int .u8 k,.int .i64 n,.string s,.slice ka ls.length kc] 26)) (.cells #[.slice none 0 0,.int .i64 0,.int .i64 0] 38);rwa[World.size_alloc]at this) _);have wV:=ł (show(((w.alloc (.cells #[.int .u8 k,.int .i64 n,.string s,.slice ka ls.length kc] 26)).alloc (.cells #[.slice none 0 0,.int .i64 0,.int .i64 0] 38)).alloc (.cells #[.int .i64 0] 39)).heap[w.heap.size+1+1]? = some (.cells #[.int .i64 0] 39 (0,0))from by have:=heap_alloc_new ((w.alloc (.cells #[.int .u8 k,.int .i64 n,.string s,.slice ka ls.length kc] 26)).alloc (.cells #[.slice none 0 0,.int .i64 0,.int .i64 0] 38)) (.cells #[.int .i64 0] 39);rwa[World.size_alloc,World.size_alloc]at this);have aG:=ł (show Grow w (((w.alloc (.cells #[.int .u8 k,.int .i64 n,.string s,.slice ka ls.length kc] 26)).alloc (.cells #[.slice none 0 0,.int .i64 0,.int .i64 0] 38)).alloc (.cells #[.int .i64 0] 39))from(((Mv.refl _ w).alloc _).alloc _).alloc _);have gU:=ł h;have ll:=ł hx;have HS:=ł hs;have Df:=ł (λ(z:World) (hz:Grow w z)=>YT _ l z (h.later hz));have HIS:=ł (λ(z:World) (hz:Grow w z)=>II (.mk k n s (.slice ka ls.length kc) ls) z (hx.later hz));clear h hx hs;simp only[ae.val]at HIS ⊢;refine NS Tryz.func8 rfl ?_;simp only[Tryz.ntmps8,List.size_toArray,List.length_cons,List.length_nil,Nat.reduceAdd,Nat.reduceSub,Array.replicate_succ,Array.replicate_zero,List.push_toArray,List.append_toArray,List.nil_append,List.cons_append];go_wp2_with fail;generalize (((w.alloc (.cells #[.int .u8 k,.int .i64 n,.string s,.slice ka ls.length kc] 26)).alloc (.cells #[.slice none 0 0,.int .i64 0,.int .i64 0] 38)).alloc (.cells #[.int .i64 0] 39))=w3 at *;refine(Df.out _ aG.out).mono ?_;rintro e w4 ⟨a1,n1,c1,a2,n2,c2,a3,n3,c3,rfl,hg4⟩;have aN:=ł hg4;clear hg4 Df;cases hval:gN l with
 |false =>
  have HE:=ł (show wE l=3 from by simp[wE,hval]);have pW:=ł (show mF l (ae.t (.mk k n s (.slice ka ls.length kc) ls))=3 from by simp[mF,hval]);rw[HE.out];have hr:=ai qZ.out aN.out;have he:=ai wV.out aN.out;obtain⟨d0,d1,d2⟩:=di hr;have ce:=cell1 he;have hlr:=lt_of_block hr;have hle:=lt_of_block he;have zr:=aD hr;have ze:=aD he;obtain⟨hf1,hf2,hf3⟩:=AQ (a' := .slice none 0 0) (b' := .int .i64 0) (c' := .int .i64 0) (d' := .int .i64 3) hr he (by omega);have lq:=ł (aO hf1 (.cells #[.slice a1 n1 c1,.slice a2 n2 c2,.slice a3 n3 c3] 75));have mM:=ł (aO hf2 (.cells #[.slice a1 n1 c1,.slice a2 n2 c2,.slice a3 n3 c3] 75));have eQ:=ł (show Grow w _ from(Mv.trans (gtr aG.out aN.out) hf3 (λb e => .inr (by omega))).alloc (.cells #[.slice a1 n1 c1,.slice a2 n2 c2,.slice a3 n3 c3] 75));clear hf1 hf2 hf3 hr he hval;go_wp2_with fail;obtain⟨t0,t1,t2⟩:=di lq.out;have te:=cell1 mM.out;exact uy (v := .tuple #[.agg #[.slice none 0 0,.int .i64 0,.int .i64 0],.int .i64 3]) (by simp[results,Tryz.results8,go_sem,t0,t1,t2,te]) rfl ⟨.slice none 0 0,by rw[pW.out];rfl,by rw[pW.out];exact EA _,eQ.out⟩
 |true =>
  have HE:=ł (show wE l=0 from by simp[wE,hval]);have Di:=ł hval;rw[HE.out];clear hval;obtain⟨⟨d0,d1⟩,d2,d3⟩:=aF (ai HB0.out aN.out);have hl0:=lt_of_block (ai HB0.out aN.out);go_wp2_with fail;refine(HIS.out _ (gtr aG.out (aN.out.alloc (.cells #[.slice a1 n1 c1,.slice a2 n2 c2,.slice a3 n3 c3] 75)))).mono ?_;clear d0 d1 d2 d3 hl0 HIS;rintro e w5 ⟨rfl,hg5⟩;have aT:=ł (gtr (aN.out.alloc (.cells #[.slice a1 n1 c1,.slice a2 n2 c2,.slice a3 n3 c3] 75)) hg5);clear hg5;cases hib:bW (ae.t (.mk k n s (.slice ka ls.length kc) ls))with
  |false =>
   have pW:=ł (show mF l (ae.t (.mk k n s (.slice ka ls.length kc) ls))=3 from by simp[mF,hib]);have hr:=ai qZ.out aT.out;have he:=ai wV.out aT.out;obtain⟨d0,d1,d2⟩:=di hr;have ce:=cell1 he;have hlr:=lt_of_block hr;have hle:=lt_of_block he;have zr:=aD hr;have ze:=aD he;obtain⟨hf1,hf2,hf3⟩:=AQ (a' := .slice none 0 0) (b' := .int .i64 0) (c' := .int .i64 0) (d' := .int .i64 3) hr he (by omega);have lq:=ł hf1;have mM:=ł hf2;have eQ:=ł (show Grow w _ from(Mv.trans (gtr aG.out aT.out) hf3 (λb e => .inr (by omega))));clear hf1 hf2 hf3 hr he hib;go_wp2_with fail;obtain⟨t0,t1,t2⟩:=di lq.out;have te:=cell1 mM.out;exact uy (v := .tuple #[.agg #[.slice none 0 0,.int .i64 0,.int .i64 0],.int .i64 3]) (by simp[results,Tryz.results8,go_sem,t0,t1,t2,te]) rfl ⟨.slice none 0 0,by rw[pW.out];rfl,by rw[pW.out];exact EA _,eQ.out⟩
  |true =>
   have ed:=ł hib;have Am:=ł (show(gN l && bW (ae.t (.mk k n s (.slice ka ls.length kc) ls)))=true from by rw[Di.out,hib];rfl);clear hib;have hmm := @run_makeMap Tryz.prog;have si:Grow w5 (((w5.alloc (.cells #[.slice none 0 0,.int .i64 0,.int .i64 0] 38)).alloc (.map #[] 0)).alloc (.cells #[.map (some (w5.heap.size+1))] 78)):=(((Mv.refl _ _).alloc _).alloc _).alloc _;have nz:=ł (gtr (gtr aG.out aT.out) si);have U8:w.heap.size+1+1<w5.heap.size:=lt_of_block (ai wV.out aT.out);have Sm:=ł (show uP w k n s (.slice ka ls.length kc) (w5.heap.size+1) (w5.heap.size+1+1) _ from
    ⟨ai (ai HB0.out aT.out) si,ai (ai qZ.out aT.out) si,ai (ai wV.out aT.out) si,by have:=heap_alloc_new ((w5.alloc (.cells #[.slice none 0 0,.int .i64 0,.int .i64 0] 38)).alloc (.map #[] 0)) (.cells #[.map (some (w5.heap.size+1))] 78);rwa[World.size_alloc,World.size_alloc]at this⟩)
   have uQ:=ł (show eY w w5.heap.size _ (.slice none 0 0) iI from⟨nz.out,aO (aO (heap_alloc_new w5 _) _) _,World.ownsRow_nil _ _ _ _,by omega⟩);have U9:=ł (show MapAt Value.string (((w5.alloc (.cells #[.slice none 0 0,.int .i64 0,.int .i64 0] 38)).alloc (.map #[] 0)).alloc (.cells #[.map (some (w5.heap.size+1))] 78)) (w5.heap.size+1) []from
    (by have:=MapAt.new Value.string (w5.alloc (.cells #[.slice none 0 0,.int .i64 0,.int .i64 0] 38));rw[World.size_alloc]at this;exact this.keep (Below.heap_alloc _ _ _ this.lt)))
   have Va:=ł (show(((w5.alloc (.cells #[.slice none 0 0,.int .i64 0,.int .i64 0] 38)).alloc (.map #[] 0)).alloc (.cells #[.map (some (w5.heap.size+1))] 78)).heap.size=w5.heap.size+3 from by simp);have uT:=ł U8;clear si U8 HB0 qZ wV;go_wp2_with fail;generalize (((w5.alloc (.cells #[.slice none 0 0,.int .i64 0,.int .i64 0] 38)).alloc (.map #[] 0)).alloc (.cells #[.map (some (w5.heap.size+1))] 78))=w8 at *;clear hmm;have HF:=ł (show w.heap.size+1+1<w5.heap.size/\w5.heap.size+3=w8.heap.size from⟨uT.out,Va.out.symm⟩);clear uT Va;generalize w5.heap.size=F at *;clear aT aN aG HE;generalize w4.heap.size=b6 at *;clear w5 w4 w3
   go_loopw [33] (λt wr=>∃ (j:Nat) (sv:Value),t = .int .i64 j/\j<=l.length/\nR [] l=nR ((l.take j).map aA.name) (l.drop j)/\eY w F wr sv (frameC (l.take j))/\MapAt Value.string wr (F+1) (yY (l.take j))/\uP w k n s (.slice ka ls.length kc) (F+1) (F+1+1) wr/\w8.heap.size<=wr.heap.size) (λt _=>l.length - (intOf t).toNat)
   case atStart=>exact⟨0,_,rfl,Nat.zero_le _,rfl,uQ.out,U9.out,Sm.out,Nat.le_refl _⟩
   obtain⟨j,sv,rfl,hj,hdup,hst,hmp,hbx,hsz⟩:=hrel;have Gi:=ł hdup;have HST:=ł hst;have bS:=ł hbx;have iE:=ł hsz;have hgw:=hst.g;clear hst hbx hsz uQ U9 Sm hdup;by_cases hlt:j<l.length
   · obtain⟨b,off,cap',e,_,hcc⟩:=(gU.out.later hgw).at hlt;simp only[Value.slice.injEq,true_and]at e;obtain⟨rfl,rfl⟩:=e;have c0:=hcc 0 _ rfl;have c1:=hcc 1 _ rfl;have c2:=hcc 2 _ rfl;have DC:=ł (Zj l j hlt);have HDT:=ł (Xo l j hlt);have HFT:=ł (WA l j hlt);have hbd:=Iq l j Di.out;have jP:=ł hbd;have zC:l[j].okB=true:=by
      have:=Di.out;simp only[gN,Bool.and_eq_true]at this;exact List.all_eq_true.1 this.2 _ (List.getElem_mem hlt)
     have Vb:=ł (show 0<=l[j].len/\l[j].len<=100000 from by
      simp only[aA.okB,mE]at zC;split at zC
      · have:l[j].len=0:=by simpa using zC
        omega
      · split at zC
        · simp at zC;omega
        · cases zC)
     clear zC hbd;generalize l[j]=x at *;obtain⟨xs,xk,xn⟩:=x;simp only[Nat.add_zero]at c0 c1 c2 Vb;have hbl:b<wr.heap.size:=World.block_lt_of_cell? wr _ c0;have qL:=hmp.keep (w':=wr.alloc (.cells #[.string xs,.int .u8 xk,.int .i64 xn] 54)) (Below.heap_alloc _ _ _ hmp.lt);have hl:=run_get Tryz.gM Tryz.underlying78 xs (.bool false) Tryz.ET qL;rw[Jy]at hl;have ct:=cell1 bS.out.t;have hlt2:=lt_of_block bS.out.t;generalize hq:((l.take j).any λv=>v.name == xs)=q at *;cases q with
     |true =>
      have pW:=ł (show mF l (ae.t (.mk k n s (.slice ka ls.length kc) ls))=22 from by
       simp only[mF,Am.out,if_true];rw[if_pos (by rw[Gi.out,DC.out];rfl)])
      obtain⟨d0,d1,d2⟩:=di bS.out.r;have ce:=cell1 bS.out.e;have hlr:=lt_of_block bS.out.r;have hle:=lt_of_block bS.out.e;have zr:=aD bS.out.r;have ze:=aD bS.out.e;obtain⟨hf1,hf2,hf3⟩:=AQ (a' := .slice none 0 0) (b' := .int .i64 0) (c' := .int .i64 0) (d' := .int .i64 22) bS.out.r bS.out.e (by omega);have lq:=ł (aO hf1 (.cells #[.string xs,.int .u8 xk,.int .i64 xn] 54));have mM:=ł (aO hf2 (.cells #[.string xs,.int .u8 xk,.int .i64 xn] 54));have eQ:=ł (show Grow w _ from(Mv.trans hgw hf3 (λb e => .inr (by omega))).alloc (.cells #[.string xs,.int .u8 xk,.int .i64 xn] 54));clear hf1 hf2 hf3 hcc hmp qL hgw;go_wp2_with fail;obtain⟨t0,t1,t2⟩:=di lq.out;have te:=cell1 mM.out;exact uy (v := .tuple #[.agg #[.slice none 0 0,.int .i64 0,.int .i64 0],.int .i64 22]) (by simp[results,Tryz.results8,go_sem,t0,t1,t2,te]) rfl ⟨.slice none 0 0,by rw[pW.out];rfl,by rw[pW.out];exact EA _,eQ.out⟩
     |false =>
      have hga:Grow wr (wr.alloc (.cells #[.string xs,.int .u8 xk,.int .i64 xn] 54)):=(Mv.refl _ _).alloc _;have hva:=heap_alloc_new wr (.cells #[.string xs,.int .u8 xk,.int .i64 xn] 54);obtain⟨w6,hup,Sn,Dj⟩:=run_set Tryz.gM Tryz.underlying78 xs (.bool true) qL;have iy:=qL;obtain⟨es,clock,hmo,-⟩:=iy;have hne:∀ {b:Nat} {cs:Array Value} {t:TypeId} {z:Nat × Nat},(wr.alloc (.cells #[.string xs,.int .u8 xk,.int .i64 xn] 54)).heap[b]? = some (.cells cs t z)->w6.heap[b]? = some (.cells cs t z):=fun {b cs t z} hb=>by
       rw[Dj.block b (lt_of_block hb) (λe=>by subst e;rw[hmo]at hb;cases hb)];exact hb
      have Lu:eY w F w6 sv (frameC (l.take j)):=by
       have h0:=HST.out.grow hga;refine⟨h0.g.trans Dj (λb e => .inr (by have:=h0.hF;omega)),hne h0.blk,bM h0.row Dj (λg hg e => ?_),h0.hF⟩;obtain⟨-,cs,z,hc⟩:=oW h0.row g hg;subst e;rw[hmo]at hc;cases hc
      have Sq:uP w k n s (.slice ka ls.length kc) (F+1) (F+1+1) w6:=by
       have h0:=bS.out.mv hga (λ_ _ e=>e);exact⟨hne h0.b,hne h0.r,hne h0.e,hne h0.t⟩
      have hv6:=hne hva;obtain⟨y0,y1,y2⟩:=di hv6;have uj:=lt_of_block hv6;have zB:=ł (JS w F w6 sv (frameC (l.take j)) ⟨xs,xk,xn⟩ Lu (by
       obtain⟨⟨⟨b1,b2⟩,⟨b3,b4⟩,b5⟩,b6⟩:=jP.out;have:=Vb.out;exact⟨by omega,⟨by omega,by omega⟩,⟨by omega,by omega⟩,by simpa using this⟩))
      have Bd:=ł Lu;have aaz:=ł Sq;have aaA:=ł Sn;have aaB:=ł (show w8.heap.size<=w6.heap.size from by have:=Dj.size;have:=hga.size;have:=iE.out;omega);clear hcc hmp qL hgw Lu Sq Sn hne Dj hmo hga hva hv6;simp only[aA.val]at zB;go_wp2_with fail;refine zB.out.mono ?_;clear hl hup y0 y1 y2 uj ct hlt2 c0 c1 c2 hbl zB;rintro e w7 ⟨rfl,Ai,Sr,Gj⟩;have aaC:=ł Sr;have aaD:=ł (aaz.out.add Bd.out Gj HF.out.1 (by omega));have aaE:=ł (aaA.out.add Bd.out Gj (by omega));have aaF:=ł (show w8.heap.size<=w7.heap.size from by have:=Gj.size;have:=aaB.out;omega);clear Sr Gj;go_wp2_with fail
      go_roundw
      case rel=>exact⟨j+1,Ai,by go_num,by omega,by rw[Gi.out,DC.out];rfl,by rw[HFT.out];exact aaC.out,by rw[HDT.out];exact aaE.out,aaD.out,aaF.out⟩
      case measure=>(simp[intOf] <;> omega)
   · obtain rfl:j=l.length:=by omega
     have Rk:nR [] l=false:=by rw[Gi.out,List.drop_length];rfl
     have hst:=HST.out;rw[List.take_length]at hst hmp;have rf:=ł hmp;have Dk:=ł hst;have Vd:=ł Rk;have HW:=ł (PT (.mk k n s (.slice ka ls.length kc) ls) wr (ll.out.later hgw) (by have:=HS.out;omega));simp only[ae.val]at HW;obtain⟨⟨d0,d1⟩,d2,d3⟩:=aF bS.out.b;have hl0:=lt_of_block bS.out.b;clear hmp hst Rk HST Gi hgw;go_wp2_with fail;refine HW.out.mono ?_;clear d0 d1 d2 d3 hl0 HW;rintro e w9 ⟨R,y,rfl,hrb,hno,xy,xC⟩;have HST:=ł (Dk.out.grow xC);have aaG:=ł (rf.out.keep (xC.block _ rf.out.lt (λe=>e)));have Gl:=ł (bS.out.mv xC (λ_ _ e=>e));have tC:=ł (show w8.heap.size<=w9.heap.size from by have:=iE.out;have:=xC.size;omega);have vG:=ł (JU kX R y w9 (Yw _) hrb hno (by rw[xy];have:=HS.out;omega));rw[xy]at vG;clear hrb hno xC rf bS iE Dk;go_wp2_with fail;refine Ik kX (gf:=32) (lb:=#[.pointer (some ⟨R,0,none⟩)]) rfl (enters_of Tryz.func32 (by kernel_rfl) rfl) vG.out (Mv.refl _ _) (λ_=>rfl)
      (vJ w l k n s (.slice ka ls.length kc) F) (Gh w l) (λpre X Y hi hm=>hi.it hm HF.out.1 (by have:=HF.out.2;have:=tC.out;omega)) (λc pre X Y hi hm=>hi.it hm (by have:=HF.out;have:=tC.out;omega)) ?h0
      (λa x a' W=>∃ b,W.heap[b]? = some (.cells x.2.fix.cells.toArray 26 (0,0))/\a' = { tmps:=((a.tmps.setIfInBounds 50 x.1).setIfInBounds 51 x.2.fix.val).setIfInBounds 13 (.pointer (some ⟨b,0,none⟩)),defers:=[] }) ?hAx ?assign ?body ?done ?stop
     case h0=>exact⟨⟨_,by have:=HST.out;rw[XG]at this;exact this⟩,by have:=aaG.out;exact this,Gl.out,rfl⟩
     case hAx =>
      rintro x a' X l' o o' ⟨b,hb,rfl⟩ hl' ho;exact⟨b,by rw[World.putObj_heap_other (λe=>by subst e;rw[hb]at hl';cases hl';cases ho)];exact hb,rfl⟩
     case assign =>
      intro l' pre x W K hi hK;obtain⟨xp,xn⟩:=x;obtain⟨zk,zn,zs,za,zm,zc,zl,hfx,hft⟩:=ae.AA xn;simp only[hfx]at hK ⊢;have HK:=ł (hK _ (W.alloc (.cells #[.int .u8 zk,.int .i64 zn,.string zs,.slice za zm zc] 26)) ((Mv.refl _ _).alloc _) (vJ.it (B:=w9.heap.size) hi ((Mv.refl _ _).alloc _) HF.out.1 (by have:=HF.out.2;have:=tC.out;omega)) ⟨W.heap.size,heap_alloc_new W _,rfl⟩);clear hK hi;simp only[ae.val];simp only[List.setIfInBounds_toArray,List.set_cons_zero,List.set_cons_succ,ae.val]at HK
      gi_wp2
      exact HK.out
     case body =>
      rintro l' pre x a' W hi ⟨b,hb,rfl⟩ hsp;obtain⟨xp,xn⟩:=x;obtain⟨zk,zn,zs,za,zm,zc,zl,hfx,hft⟩:=ae.AA xn;simp only[hfx,ae.val,ae.cells]at hb ⊢;obtain⟨⟨sv,hst⟩,hmp,hbx,hcl⟩:=hi;obtain⟨⟨n0,n1⟩,n2,n3⟩:=aF hb;have hlb:=lt_of_block hb;clear hb;simp only[List.setIfInBounds_toArray,List.set_cons_zero,List.set_cons_succ];rcases(show zk=54\/zk=55\/(zk≠54/\zk≠55)from by omega)with hz|hz|⟨hz1,hz2⟩
      · subst hz;have hga:Grow W (W.alloc (.cells #[.string zs,.int .u8 1,.int .i64 0] 54)):=(Mv.refl _ _).alloc _;have hva:=heap_alloc_new W (.cells #[.string zs,.int .u8 1,.int .i64 0] 54);have qL:=hmp.keep (w':=(W.alloc (.cells #[.string zs,.int .u8 1,.int .i64 0] 54))) (Below.heap_alloc _ _ _ hmp.lt);have hl:=run_get Tryz.gM Tryz.underlying78 zs (.bool false) Tryz.ET qL;rw[Jy]at hl;have ni:=ł (show(came (pre ++ [(xp,xn)])).any (clash l)=(l.any λv=>v.name == zs)from by
         rw[ry,List.any_append,hcl,hft];simp[clash,ae.t,Tree.kind,Tree.name])
        have Ej:=ł (show eG l (came (pre ++ [(xp,xn)]))=if(au (eG l (came pre)) zs 1).isSome then eG l (came pre)else gL (eG l (came pre)) ⟨zs,1,0⟩from by
         rw[ry,Jz,hft];rfl)
        obtain⟨y0,y1,y2⟩:=di hva;have uj:=lt_of_block hva;have ct:=cell1 hbx.t;have hlt2:=lt_of_block hbx.t;have aY:=ł hst;have bS:=ł hbx;have rf:=ł hmp;clear hst hbx hmp;generalize hq:(l.any λv=>v.name == zs)=q at *;cases q with
        |true =>
         obtain⟨u0,u1,u2⟩:=di bS.out.r;have ue:=cell1 bS.out.e;have hlr:=lt_of_block bS.out.r;have hle:=lt_of_block bS.out.e;have zr:=aD bS.out.r;have ze:=aD bS.out.e;obtain⟨hf1,hf2,hf3⟩:=AQ (a' := .slice none 0 0) (b' := .int .i64 0) (c' := .int .i64 0) (d' := .int .i64 22) bS.out.r bS.out.e (by omega);have lq:=ł (aO hf1 (.cells #[.string zs,.int .u8 1,.int .i64 0] 54));have mM:=ł (aO hf2 (.cells #[.string zs,.int .u8 1,.int .i64 0] 54));have eQ:=ł (show Grow w _ from(Mv.trans aY.out.g hf3 (λb e => .inr (by omega))).alloc (.cells #[.string zs,.int .u8 1,.int .i64 0] 54));have gZ:=ł (show jT kX w9.heap.size W _ from(hf3.mono (λb e => .inl (show ¬ (nO kX W b\/(w9.heap.size<=b/\rA W b))from by
          rintro(⟨cs,t,z,hc,ht⟩|⟨hb,-⟩)
          · rcases e with rfl|rfl
            · rw[bS.out.r]at hc;simp at hc;rw[← hc.2.1]at ht;exact Bool.noConfusion (show true=false from ht)
            · rw[bS.out.e]at hc;simp at hc;rw[← hc.2.1]at ht;exact Bool.noConfusion (show true=false from ht)
          · have:=HF.out;have:=tC.out;rcases e with rfl|rfl <;> omega))).alloc (.cells #[.string zs,.int .u8 1,.int .i64 0] 54))
         clear hf1 hf2 hf3 qL hga hva
         gi_wp2
         exact⟨gZ.out,rfl,⟨lq.out,mM.out⟩,eQ.out,ni.out⟩
        |false =>
         obtain⟨sa,sc,hsv⟩:=gy aY.out.row;subst hsv;obtain⟨f0,f1,f2⟩:=di aY.out.blk;have hlf:=lt_of_block aY.out.blk;have HC:=ł (oV (.slice sa (eG l (came pre)).slots.length sc) (eG l (came pre)) zs 1 (W.alloc (.cells #[.string zs,.int .u8 1,.int .i64 0] 54)) ⟨iF (λ_=>rfl) (aY.out.grow hga).row⟩);have ny:=ł hva;have aK:=ł hga;clear qL hga hva
         gi_wp2
         refine⟨trivial,(CallsIn.inRound l' (callsIn_wide.2 HC.out)).mono ?_⟩;clear HC y0 y1 y2 uj ct hlt2 f0 f1 f2 hlf hl n0 n1 n2 n3 hlb;rintro e W3 ⟨rfl,hg3⟩;have aG:=ł (gtr aK.out hg3);have hv3:=ai ny.out hg3;clear hg3;generalize au (eG l (came pre)) zs 1=r at *;generalize r.getD noSlot=sd at *;obtain⟨q1,q2,q3,q4⟩:=sd;have hg4:Grow W (W3.alloc (.cells #[.string q1,.int .u8 q2,.int .i64 q3,.int .i64 q4] 81)):=aG.out.alloc _;have aN:=ł hg4;have iO:=ł (aY.out.grow hg4);cases hr:r.isSome with
         |true =>
          have kL:=ł (show vJ w l k n s (.slice ka ls.length kc) F (pre ++ [(xp,xn)]) (W3.alloc (.cells #[.string q1,.int .u8 q2,.int .i64 q3,.int .i64 q4] 81))from
           ⟨⟨_,by rw[Ej.out,if_pos hr];exact iO.out⟩,rf.out.keep (hg4.block _ rf.out.lt (λe=>e)),bS.out.mv hg4 (λ_ _ e=>e),ni.out⟩)
          have gZ:=ł (show jT kX w9.heap.size W (W3.alloc (.cells #[.string q1,.int .u8 q2,.int .i64 q3,.int .i64 q4] 81))from hg4.mono (λ_ e=>e.elim));clear hg4 hv3 hr
          gi_wp2
          exact⟨gZ.out,kL.out⟩
         |false =>
          have hbd:=Ke l (came pre) Di.out;have hn:(came pre).length<=900:=by
           have h1:=hsp.length_le;rw[ry,AB]at h1;have:=HS.out;simp at h1;omega
          have HC:=ł (JS w F _ _ (eG l (came pre)) ⟨zs,1,0⟩ iO.out (by
           obtain⟨⟨⟨b1,b2⟩,⟨b3,b4⟩,b5⟩,b6'⟩:=hbd;exact⟨by omega,⟨by omega,by omega⟩,⟨by omega,by omega⟩,by simp⟩))
          simp only[aA.val]at HC;obtain⟨y0,y1,y2⟩:=di hv3;have uj:=lt_of_block hv3;have Lv:=ł (show eG l (came (pre ++ [(xp,xn)]))=gL (eG l (came pre)) ⟨zs,1,0⟩from by rw[Ej.out,if_neg (by rw[hr];decide)]);clear hg4 hbd hn
          gi_wp2
          refine⟨trivial,(CallsIn.inRound l' (callsIn_wide.2 HC.out)).mono ?_⟩;clear HC y0 y1 y2 uj hv3 hr;rintro e W5 ⟨rfl,Ai,fH,eX⟩;have kL:=ł (show vJ w l k n s (.slice ka ls.length kc) F (pre ++ [(xp,xn)]) W5 from
           ⟨⟨Ai,by rw[Lv.out];exact fH⟩,(rf.out.keep (aN.out.block _ rf.out.lt (λe=>e))).add iO.out eX (by omega),(bS.out.mv aN.out (λ_ _ e=>e)).add iO.out eX HF.out.1 (by omega),ni.out⟩)
          have gZ:=ł (show jT kX w9.heap.size W W5 from(aN.out.mono (λ_ e=>e.elim)).trans eX (λb e => .inl (show ¬ (nO kX W b\/(w9.heap.size<=b/\rA W b))from by
           have hty:∃ cs t z,W.heap[b]? = some (.cells cs t z)/\kX b t=true:=by
            rcases e with rfl|e
            · exact⟨_,_,_,aY.out.blk,rfl⟩
            · obtain⟨-,cs,z,hc⟩:=oW aY.out.row b e;exact⟨cs,_,z,hc,rfl⟩
           obtain⟨cs,t,z,hc,ht⟩:=hty;rintro(⟨cs',t',z',hc',ht'⟩|⟨-,o,ho,hn⟩)
           · rw[hc]at hc';simp only[Option.some.injEq,Obj.cells.injEq]at hc';obtain⟨-,rfl,-⟩:=hc';rw[ht]at ht';cases ht'
           · rw[hc]at ho;cases ho;cases hn)))
          clear fH eX
          gi_wp2
          exact⟨gZ.out,kL.out⟩
      · subst hz;have hga:Grow W (W.alloc (.cells #[.string zs,.int .u8 3,.int .i64 0] 54)):=(Mv.refl _ _).alloc _;have hva:=heap_alloc_new W (.cells #[.string zs,.int .u8 3,.int .i64 0] 54);have qL:=hmp.keep (w':=(W.alloc (.cells #[.string zs,.int .u8 3,.int .i64 0] 54))) (Below.heap_alloc _ _ _ hmp.lt);have hl:=run_get Tryz.gM Tryz.underlying78 zs (.bool false) Tryz.ET qL;rw[Jy]at hl;have ni:=ł (show(came (pre ++ [(xp,xn)])).any (clash l)=(l.any λv=>v.name == zs)from by
         rw[ry,List.any_append,hcl,hft];simp[clash,ae.t,Tree.kind,Tree.name])
        have Ej:=ł (show eG l (came (pre ++ [(xp,xn)]))=if(au (eG l (came pre)) zs 3).isSome then eG l (came pre)else gL (eG l (came pre)) ⟨zs,3,0⟩from by
         rw[ry,Jz,hft];rfl)
        obtain⟨y0,y1,y2⟩:=di hva;have uj:=lt_of_block hva;have ct:=cell1 hbx.t;have hlt2:=lt_of_block hbx.t;have aY:=ł hst;have bS:=ł hbx;have rf:=ł hmp;clear hst hbx hmp;generalize hq:(l.any λv=>v.name == zs)=q at *;cases q with
        |true =>
         obtain⟨u0,u1,u2⟩:=di bS.out.r;have ue:=cell1 bS.out.e;have hlr:=lt_of_block bS.out.r;have hle:=lt_of_block bS.out.e;have zr:=aD bS.out.r;have ze:=aD bS.out.e;obtain⟨hf1,hf2,hf3⟩:=AQ (a' := .slice none 0 0) (b' := .int .i64 0) (c' := .int .i64 0) (d' := .int .i64 22) bS.out.r bS.out.e (by omega);have lq:=ł (aO hf1 (.cells #[.string zs,.int .u8 3,.int .i64 0] 54));have mM:=ł (aO hf2 (.cells #[.string zs,.int .u8 3,.int .i64 0] 54));have eQ:=ł (show Grow w _ from(Mv.trans aY.out.g hf3 (λb e => .inr (by omega))).alloc (.cells #[.string zs,.int .u8 3,.int .i64 0] 54));have gZ:=ł (show jT kX w9.heap.size W _ from(hf3.mono (λb e => .inl (show ¬ (nO kX W b\/(w9.heap.size<=b/\rA W b))from by
          rintro(⟨cs,t,z,hc,ht⟩|⟨hb,-⟩)
          · rcases e with rfl|rfl
            · rw[bS.out.r]at hc;simp at hc;rw[← hc.2.1]at ht;exact Bool.noConfusion (show true=false from ht)
            · rw[bS.out.e]at hc;simp at hc;rw[← hc.2.1]at ht;exact Bool.noConfusion (show true=false from ht)
          · have:=HF.out;have:=tC.out;rcases e with rfl|rfl <;> omega))).alloc (.cells #[.string zs,.int .u8 3,.int .i64 0] 54))
         clear hf1 hf2 hf3 qL hga hva
         gi_wp2
         exact⟨gZ.out,rfl,⟨lq.out,mM.out⟩,eQ.out,ni.out⟩
        |false =>
         obtain⟨sa,sc,hsv⟩:=gy aY.out.row;subst hsv;obtain⟨f0,f1,f2⟩:=di aY.out.blk;have hlf:=lt_of_block aY.out.blk;have HC:=ł (oV (.slice sa (eG l (came pre)).slots.length sc) (eG l (came pre)) zs 3 (W.alloc (.cells #[.string zs,.int .u8 3,.int .i64 0] 54)) ⟨iF (λ_=>rfl) (aY.out.grow hga).row⟩);have ny:=ł hva;have aK:=ł hga;clear qL hga hva
         gi_wp2
         refine⟨trivial,(CallsIn.inRound l' (callsIn_wide.2 HC.out)).mono ?_⟩;clear HC y0 y1 y2 uj ct hlt2 f0 f1 f2 hlf hl n0 n1 n2 n3 hlb;rintro e W3 ⟨rfl,hg3⟩;have aG:=ł (gtr aK.out hg3);have hv3:=ai ny.out hg3;clear hg3;generalize au (eG l (came pre)) zs 3=r at *;generalize r.getD noSlot=sd at *;obtain⟨q1,q2,q3,q4⟩:=sd;have hg4:Grow W (W3.alloc (.cells #[.string q1,.int .u8 q2,.int .i64 q3,.int .i64 q4] 81)):=aG.out.alloc _;have aN:=ł hg4;have iO:=ł (aY.out.grow hg4);cases hr:r.isSome with
         |true =>
          have kL:=ł (show vJ w l k n s (.slice ka ls.length kc) F (pre ++ [(xp,xn)]) (W3.alloc (.cells #[.string q1,.int .u8 q2,.int .i64 q3,.int .i64 q4] 81))from
           ⟨⟨_,by rw[Ej.out,if_pos hr];exact iO.out⟩,rf.out.keep (hg4.block _ rf.out.lt (λe=>e)),bS.out.mv hg4 (λ_ _ e=>e),ni.out⟩)
          have gZ:=ł (show jT kX w9.heap.size W (W3.alloc (.cells #[.string q1,.int .u8 q2,.int .i64 q3,.int .i64 q4] 81))from hg4.mono (λ_ e=>e.elim));clear hg4 hv3 hr
          gi_wp2
          exact⟨gZ.out,kL.out⟩
         |false =>
          have hbd:=Ke l (came pre) Di.out;have hn:(came pre).length<=900:=by
           have h1:=hsp.length_le;rw[ry,AB]at h1;have:=HS.out;simp at h1;omega
          have HC:=ł (JS w F _ _ (eG l (came pre)) ⟨zs,3,0⟩ iO.out (by
           obtain⟨⟨⟨b1,b2⟩,⟨b3,b4⟩,b5⟩,b6'⟩:=hbd;exact⟨by omega,⟨by omega,by omega⟩,⟨by omega,by omega⟩,by simp⟩))
          simp only[aA.val]at HC;obtain⟨y0,y1,y2⟩:=di hv3;have uj:=lt_of_block hv3;have Lv:=ł (show eG l (came (pre ++ [(xp,xn)]))=gL (eG l (came pre)) ⟨zs,3,0⟩from by rw[Ej.out,if_neg (by rw[hr];decide)]);clear hg4 hbd hn
          gi_wp2
          refine⟨trivial,(CallsIn.inRound l' (callsIn_wide.2 HC.out)).mono ?_⟩;clear HC y0 y1 y2 uj hv3 hr;rintro e W5 ⟨rfl,Ai,fH,eX⟩;have kL:=ł (show vJ w l k n s (.slice ka ls.length kc) F (pre ++ [(xp,xn)]) W5 from
           ⟨⟨Ai,by rw[Lv.out];exact fH⟩,(rf.out.keep (aN.out.block _ rf.out.lt (λe=>e))).add iO.out eX (by omega),(bS.out.mv aN.out (λ_ _ e=>e)).add iO.out eX HF.out.1 (by omega),ni.out⟩)
          have gZ:=ł (show jT kX w9.heap.size W W5 from(aN.out.mono (λ_ e=>e.elim)).trans eX (λb e => .inl (show ¬ (nO kX W b\/(w9.heap.size<=b/\rA W b))from by
           have hty:∃ cs t z,W.heap[b]? = some (.cells cs t z)/\kX b t=true:=by
            rcases e with rfl|e
            · exact⟨_,_,_,aY.out.blk,rfl⟩
            · obtain⟨-,cs,z,hc⟩:=oW aY.out.row b e;exact⟨cs,_,z,hc,rfl⟩
           obtain⟨cs,t,z,hc,ht⟩:=hty;rintro(⟨cs',t',z',hc',ht'⟩|⟨-,o,ho,hn⟩)
           · rw[hc]at hc';simp only[Option.some.injEq,Obj.cells.injEq]at hc';obtain⟨-,rfl,-⟩:=hc';rw[ht]at ht';cases ht'
           · rw[hc]at ho;cases ho;cases hn)))
          clear fH eX
          gi_wp2
          exact⟨gZ.out,kL.out⟩
      · have e1:(zk == 54)=false:=by simpa using hz1
        have e2:(zk == 55)=false:=by simpa using hz2
        have kL:=ł (show vJ w l k n s (.slice ka ls.length kc) F (pre ++ [(xp,xn)]) (W.alloc (.cells #[.string zs,.int .u8 0,.int .i64 0] 54))from by
         have hg:Grow W (W.alloc (.cells #[.string zs,.int .u8 0,.int .i64 0] 54)):=(Mv.refl _ _).alloc _;have ho:eG l (came (pre ++ [(xp,xn)]))=eG l (came pre):=by
          rw[ry,Jz,hft];simp[addNode,ae.t,Tree.kind,hz1,hz2]
         refine⟨⟨sv,by rw[ho];exact hst.grow hg⟩,hmp.keep (hg.block _ hmp.lt (λe=>e)),hbx.mv hg (λ_ _ e=>e),?_⟩;rw[ry,List.any_append,hcl,hft];simp[clash,ae.t,Tree.kind,hz1,hz2])
        have gZ:=ł (show jT kX w9.heap.size W (W.alloc (.cells #[.string zs,.int .u8 0,.int .i64 0] 54))from(Mv.refl _ _).alloc _);clear hst hmp hbx hcl hz1 hz2 hft
        gi_wp2
        exact⟨gZ.out,kL.out⟩
     case done =>
      intro D xs W hD hS hi hK;obtain⟨⟨sv,hst⟩,hmp,hbx,hcl⟩:=hi;obtain⟨sa,sc,hsv⟩:=gy hst.row;subst hsv;have hof:eG l (came xs)=mK l (ae.t (.mk k n s (.slice ka ls.length kc) ls)):=by rw[hS];rfl
      have pW:=ł (show mF l (ae.t (.mk k n s (.slice ka ls.length kc) ls))=0 from by
       simp only[mF,Am.out,if_true,Vd.out];rw[if_neg (by decide),← hS,hcl];rfl)
      obtain⟨f0,f1,f2⟩:=di hst.blk;have hlf:=lt_of_block hst.blk;obtain⟨u0,u1,u2⟩:=di hbx.r;have ue:=cell1 hbx.e;have hlr:=lt_of_block hbx.r;have hle:=lt_of_block hbx.e;have zr:=aD hbx.r;have ze:=aD hbx.e;have hne1:w.heap.size+1≠D:=by have:=HF.out;have:=tC.out;omega
      have hne2:w.heap.size+1+1≠D:=by have:=HF.out;have:=tC.out;omega
      obtain⟨hf1,hf2,hf3⟩:=AQ (a' := .slice sa (eG l (came xs)).slots.length sc) (b' := .int .i64 (eG l (came xs)).cells) (c' := .int .i64 (eG l (came xs)).stacks) (d' := .int .i64 0) hbx.r hbx.e (by omega);have hrow:=bM hst.row hf3 (λg hg e=>by
       rcases e with rfl|rfl
       · exact eO hst.row hbx.r (by decide) hg
       · exact eO hst.row hbx.e (by decide) hg)
      have lq:=ł hf1;have mM:=ł hf2;have eQ:=ł (show Grow w _ from Mv.trans hst.g hf3 (λb e => .inr (by omega)));have dU:=ł hrow;have Ib:=ł (show fV _ (.slice sa (eG l (came xs)).slots.length sc) (eG l (came xs))from⟨iF (λ_=>rfl) hrow⟩);have Ve:=(hf3.block D (Array.getElem?_eq_some_iff.1 hK).1 (λe=>by rcases e with e|e;exact hne1 e.symm;exact hne2 e.symm)).trans hK;have oO:=ł Ve;clear hf1 hf2 hf3 hrow Ve hst hmp hbx hcl hK hS;rw[hof]at lq mM eQ Ib oO dU;go_wp2_with fail;have hn1:w.heap.size+1≠D:=hne1;have g1:=(World.putObj_heap_other (o := .deferred none) (hne1)).trans lq.out;have g2:=(World.putObj_heap_other (o := .deferred none) (hne2)).trans mM.out;obtain⟨t0,t1,t2⟩:=di g1;have te:=cell1 g2;refine Ez oO.out (v := .tuple #[.agg #[.slice sa (mK l (ae.t (.mk k n s (.slice ka ls.length kc) ls))).slots.length sc,.int .i64 (mK l (ae.t (.mk k n s (.slice ka ls.length kc) ls))).cells,.int .i64 (mK l (ae.t (.mk k n s (.slice ka ls.length kc) ls))).stacks],.int .i64 0]) (by simp[results,Tryz.results8,go_sem,t0,t1,t2,te]) rfl ⟨_,by rw[pW.out];rfl,?_,?_⟩
      · rw[pW.out];exact⟨Ib.out.row.stay (Mv.putObj (O:=λb=>b=D) _ D _ rfl) (λg hg e=>by
         obtain⟨-,cs,z,hc⟩:=oW dU.out g hg;subst e;rw[oO.out]at hc;cases hc)⟩
      · exact Mv.trans eQ.out (Mv.putObj (O:=λb=>b=D) _ D _ rfl) (λb e => .inr (by subst e;have:=HF.out;have:=tC.out;have:=nz.out.size;omega))
     case stop =>
      rintro D c xs W hD hS ⟨rfl,⟨hf1,hf2⟩,hgf,hcl⟩ hK;have lq:=ł hf1;have mM:=ł hf2;have eQ:=ł hgf;have pW:=ł (show mF l (ae.t (.mk k n s (.slice ka ls.length kc) ls))=22 from by
       simp only[mF,Am.out,if_true,Vd.out];rw[if_neg (by decide),if_pos];obtain⟨t,ht,hct⟩:=List.any_eq_true.1 hcl;exact List.any_eq_true.2 ⟨t,hS.subset ht,hct⟩)
      have hne1:w.heap.size+1≠D:=by have:=HF.out;have:=tC.out;omega
      have hne2:w.heap.size+1+1≠D:=by have:=HF.out;have:=tC.out;omega
      have oO:=ł hK;clear hf1 hf2 hgf hK hcl hS;go_wp2_with fail;have g1:=(World.putObj_heap_other (o := .deferred none) (hne1)).trans lq.out;have g2:=(World.putObj_heap_other (o := .deferred none) (hne2)).trans mM.out;obtain⟨t0,t1,t2⟩:=di g1;have te:=cell1 g2;refine Ez oO.out (v := .tuple #[.agg #[.slice none 0 0,.int .i64 0,.int .i64 0],.int .i64 22]) (by simp[results,Tryz.results8,go_sem,t0,t1,t2,te]) rfl ⟨.slice none 0 0,by rw[pW.out];rfl,by rw[pW.out];exact EA _,?_⟩;exact Mv.trans eQ.out (Mv.putObj (O:=λb=>b=D) _ D _ rfl) (λb e => .inr (by subst e;have:=HF.out;have:=tC.out;have:=nz.out.size;omega))
theorem Yx (l:List aA):mK l (.mk 57 0 ⟨#[]⟩ [])=frameC l:=rfl
theorem XH (l:List aA):mF l (.mk 57 0 ⟨#[]⟩ [])=jX l:=by
 unfold mF jX;rw[show bW (.mk 57 0 ⟨#[]⟩ [])=true from by simp[bW,yR,eD,ByteArray.size],Bool.and_true,show(dD (.mk 57 0 ⟨#[]⟩ [])).any (clash l)=false from by simp[dD,gF,clash,Tree.kind]];simp
theorem Yy (w:World):aS w (.mk 57 0 ⟨#[]⟩ (.slice none 0 0) []) := .mk (by decide) (by simp[In64]) (by simp[ByteArray.size]) (ax.nil _ _ _) (by simp)
theorem JY:uL:=λv l w h=>by
 have:=QR v l (.mk 57 0 ⟨#[]⟩ (.slice none 0 0) []) w h (Yy w) (by simp[ae.t,ae.ts,bA,dz]);refine this.mono ?_;rintro e w' ⟨sv,he,hf,hg⟩;simp only[ae.t,ae.ts,Yx,XH]at he hf;exact⟨sv,he,hf,hg⟩
end Go.Proofs.YtnobahchcongnaaGreat
