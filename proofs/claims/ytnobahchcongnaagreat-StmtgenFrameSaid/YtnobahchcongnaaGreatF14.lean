import Derived.Test.YtnobahchcongnaaGreatF13
import Derived.Deep.CutRange
set_option linter.unusedSimpArgs false
set_option linter.unusedVariables false
set_option maxRecDepth 100000
set_option maxHeartbeats 25600000
namespace Go.Proofs.YtnobahchcongnaaGreat
open Go.RowKit Go.Instr
attribute [local go_sem ↓] lu
theorem XZ (op:Int) (w:World) (h0:0<=op) (h1:op<=255):Calls Tryz.prog 97 #[.int .u8 op] w λe w'=>e = .returned (.int .u8 (Ck op))/\w=w':=by
 by_cases hx:op=22\/op=23\/op=24\/op=25\/op=26\/op=27
 · rcases hx with rfl|rfl|rfl|rfl|rfl|rfl
   all_goals
    go_enter Tryz.func97,Tryz.ntmps97
    go_wp2
    go_ret;exact⟨rfl,rfl⟩
 · simp only[not_or]at hx;obtain⟨x1,x2,x3,x4,x5,x6⟩:=hx
   go_enter Tryz.func97,Tryz.ntmps97
   go_wp2
   all_goals (go_ret;exact⟨cB (by unfold Ck;simp_all),rfl⟩)
theorem WW (i:Ins) (w:World) (h0:0<=i.op) (h1:i.op<=255):Calls Tryz.prog 64 #[i.val] w λe w'=>e = .returned i.inv.val/\Grow w w':=by
 obtain⟨op,a,b,c,d⟩:=i;have HC:=ł (λw=>XZ op w h0 h1);have HI:=ł (show(Ins.inv ⟨op,a,b,c,d⟩).val = .agg #[.int .u8 (Ck op),.int .i64 a,.int .i64 b,.int .i64 c,.int .i64 d]from rfl)
 go_enter Tryz.func64,Tryz.ntmps64
 go_wp2_with fail;refine(HC.out _).mono ?_;rintro e w' ⟨rfl,rfl⟩;generalize Ck op=r at *;go_wp2_with fail;refine bodyPost_ret (v := .agg #[.int .u8 r,.int .i64 a,.int .i64 b,.int .i64 c,.int .i64 d]) (by simp[results,Tryz.results64,go_sem]) rfl ⟨by rw[HI.out],((Mv.refl _ _).alloc _).alloc _⟩
theorem J9 (v:Value) (x:Ins) (xs:List Ins) (base:Nat) (w:World) (hrow:dN w base v xs) (hb:base<=w.heap.size) (hlen:xs.length<=900000) :
 ∃ a' c' w2,(rG Tryz.prog 42 42 v (.slice (some ⟨w.heap.size,0,none⟩) 1 1) (w.alloc (.cells #[.int .u8 x.op,.int .i64 x.a,.int .i64 x.b,.int .i64 x.c,.int .i64 x.d] 60)) /\
  nV Tryz.prog 42 42 v (.slice (some ⟨w.heap.size,0,none⟩) 1 1) (w.alloc (.cells #[.int .u8 x.op,.int .i64 x.a,.int .i64 x.b,.int .i64 x.c,.int .i64 x.d] 60)) = .slice a' (xs.length+1) c'/\appW Tryz.prog 42 42 v (.slice (some ⟨w.heap.size,0,none⟩) 1 1) (w.alloc (.cells #[.int .u8 x.op,.int .i64 x.a,.int .i64 x.b,.int .i64 x.c,.int .i64 x.d] 60))=w2) /\
  dN w2 base (.slice a' (xs.length+1) c') (xs ++ [x])/\Mv (λb=>v.ownBlock=some b) w w2:=by
 have hs:ax 5 Ins.cells (w.alloc (.cells #[.int .u8 x.op,.int .i64 x.a,.int .i64 x.b,.int .i64 x.c,.int .i64 x.d] 60)) (.slice (some ⟨w.heap.size,0,none⟩) 1 1) [x]:=ax.bN (f:=Ins.cells) (l:=[x]) (λ_=>rfl) (heap_alloc_new w _) (by simp[flat,Ins.cells]) (by simp);obtain⟨a',c',w2,⟨hok,hv,hw⟩,hrow2,bK,hnew⟩:=oZ Tryz.Fp (f:=Ins.cells) (λ_=>rfl) v _ xs [x] base _ (bM hrow (((Mv.refl (λ_=>False) w).alloc _)) (λ_ _ e=>e)) hs Fq (by simp;omega) (by simp;omega);exact⟨a',c',w2,⟨hok,hv,hw⟩,hrow2,((Mv.refl _ w).alloc _).trans bK (λx e => .inl e)⟩
theorem kC {w:World} {X:Nat} {a b c d e:Value} {t:TypeId} (h:w.heap[X]? = some (.cells #[a,b,c,d,e] t (0,0))) (p q r s u:Value) :
 (((((w.setCell ⟨X,0,none⟩ p).setCell ⟨X,1,none⟩ q).setCell ⟨X,2,none⟩ r).setCell ⟨X,3,none⟩ s).setCell ⟨X,4,none⟩ u).heap[X]? = some (.cells #[p,q,r,s,u] t (0,0))/\Mv (λb=>b=X) w (((((w.setCell ⟨X,0,none⟩ p).setCell ⟨X,1,none⟩ q).setCell ⟨X,2,none⟩ r).setCell ⟨X,3,none⟩ s).setCell ⟨X,4,none⟩ u):=by
 constructor
 · have h1:=block_setCell (p:=⟨X,0,none⟩) h rfl p;have h2:=block_setCell (p:=⟨X,1,none⟩) h1 rfl q;have h3:=block_setCell (p:=⟨X,2,none⟩) h2 rfl r;have h4:=block_setCell (p:=⟨X,3,none⟩) h3 rfl s;have h5:=block_setCell (p:=⟨X,4,none⟩) h4 rfl u
   simpa using h5
 · exact(((((Mv.refl (λb=>b=X) w).setCell (p:=⟨X,0,none⟩) (.inl rfl) p).setCell (p:=⟨X,1,none⟩) (.inl rfl) q).setCell (p:=⟨X,2,none⟩) (.inl rfl) r).setCell (p:=⟨X,3,none⟩) (.inl rfl) s).setCell (p:=⟨X,4,none⟩) (.inl rfl) u
structure lH (w0 wr:World) (v:Value) (l:List Ins):Prop where
 g:Grow w0 wr
 row:dN wr w0.heap.size v l
theorem lH.grow {w0 wr w2:World} {v:Value} {l:List Ins} (h:lH w0 wr v l) (hm:Grow wr w2):lH w0 w2 v l:=⟨h.g.trans hm (λ_ e=>e.elim),bM h.row hm (λ_ _ e=>e)⟩
theorem lH.app {w0 wr w2:World} {v v2:Value} {l l2:List Ins} (h:lH w0 wr v l) (h2:dN w2 w0.heap.size v2 l2) (hm:Mv (λb=>v.ownBlock=some b) wr w2):lH w0 w2 v2 l2:=⟨h.g.trans hm (λb e => .inr (h.row.lt b e).1),h2⟩
theorem WX (l:List Ins) (j:Nat) (h:j<l.length):kR (l.drop j)=kR (l.drop (j+1)) ++ [l[j].inv]:=by
 rw[List.drop_eq_getElem_cons h];simp only[kR,List.map_cons,List.reverse_cons]
theorem IK (l:List Ins):(kR l).length=l.length:=by simp[kR]
theorem WY (v:Value) (l:List Ins) (w:World) (h:ax 5 Ins.cells w v l) (hl:l.length<=300000) (hop:∀ x∈l,0<=x.op/\x.op<=255) :
 Calls Tryz.prog 37 #[v] w λe w'=>∃ v',e = .returned v'/\lH w w' v' (kR l):=by
 obtain⟨va,vc,rfl,oC,hvl⟩:=h.form;have HR:=ł h;have Gz:=ł hop;obtain⟨i0,hi,hz0,hz1,hz2⟩:=info_parts Tryz.J8;obtain⟨w1,hmk,hown,hgr⟩:=run_makeSlice_owned (P:=Tryz.prog) w w.heap.size 42 60 i0 _ 5 Tryz.underlying42 hi hz0 hz1 .i64 .i64 l.length (by omega) (by rw[hz2];omega) (by simp only[maxLen];omega) (Nat.le_refl _);have mX:=ł (show lH w w1 (.slice (some ⟨w.heap.size,0,none⟩) 0 l.length) []from⟨(Mv.refl _ w).grown hgr (λk e=>by cases e),by simpa[dN,flat]using hown⟩);clear h hop hi hz0 hz1 hz2 hown hgr
 go_enter Tryz.func37,Tryz.ntmps37
 go_wp2_with fail;clear hmk
 go_loopw [3,4] (λcv t wr=>∃ i:Int,t = .int .i64 i /\ -1<=i/\i<l.length/\lH w wr cv (kR (l.drop (i+1).toNat))) (λ_ t _=>(intOf t+1).toNat)
 case atStart=>exact⟨_,rfl,by omega,by omega,by
  have e:l.drop ((l.length:Int) - 1+1).toNat=[]:=List.drop_of_length_le (by omega);rw[e];exact mX.out⟩
 obtain⟨i,rfl,hi1,hi2,hst⟩:=hrel;have HST:=ł hst;clear hst;by_cases h0:0<=i
 · obtain⟨j,rfl⟩:∃ j:Nat,i=j:=⟨i.toNat,by omega⟩;have hj:j<l.length:=by omega
   obtain⟨b,off,cap',e,_,_⟩:=(HR.out.later HST.out.g).at hj;simp only[Value.slice.injEq,true_and]at e;obtain⟨rfl,rfl⟩:=e;obtain⟨⟨c0,c1,c2⟩,c3,c4,hbl⟩:=(HR.out.later HST.out.g).ins hj;have HU:=ł (show kR (l.drop ((j:Int) - 1+1).toNat)=kR (l.drop (j+1)) ++ [l[j].inv]from by
    rw[show((j:Int) - 1+1).toNat=j from by omega];exact WX l j hj)
   have FT:=ł (show lH w wr _ (kR (l.drop (j+1)))from by have:=HST.out;rwa[show((j:Int)+1).toNat=j+1 from by omega]at this);have hcl:(kR (l.drop (j+1))).length<=300000:=by rw[IK,List.length_drop];omega
   have L9:=ł (λw'=>WW l[j] w' (Gz.out _ (List.getElem_mem hj)).1 (Gz.out _ (List.getElem_mem hj)).2);clear HST;generalize kR (l.drop (j+1))=cs at *;obtain⟨na,nc,rV⟩:=gy FT.out.row;subst rV;generalize hx:l[j]=x at *;generalize hr:x.inv=r at *;obtain⟨xo,xa,xb,xc,xd⟩:=x;obtain⟨ro,ra,rb,rc,rd⟩:=r;simp only at c0 c1 c2 c3 c4;clear hx hr;go_wp2_with fail;refine(L9.out _).mono ?_;rintro e w3 ⟨rfl,qQ⟩;obtain⟨a',c',w6,⟨hok,hv,hw⟩,hrow2,bK⟩:=J9 _ ⟨ro,ra,rb,rc,rd⟩ cs _ w3 (FT.out.grow qQ).row (FT.out.grow qQ).g.size (by omega);have Cx:=ł ((FT.out.grow qQ).app hrow2 bK);clear hrow2 bK qQ c0 c1 c2 c3 c4;simp only at hok hv hw;go_wp2_with fail
   go_roundw
   case rel=>exact⟨_,by go_num,by omega,by omega,by rw[HU.out];exact Cx.out⟩
   case measure=>(simp[intOf] <;> omega)
 · have HF:=ł (show lH w wr _ (kR l)from by have:=HST.out;rwa[show(i+1).toNat=0 from by omega,List.drop_zero]at this);clear HST;go_wp2_with fail;go_ret;exact⟨_,rfl,HF.out⟩
theorem Ins.X0 {i:Ins} {b:Int} (h:x8 i.op=true):i.shift b=i.j6 (wrap64 (i.target+b)):=by simp[Ins.shift,h]
theorem Ins.X3 {i:Ins} {b:Int} (h:x8 i.op=false):i.shift b=i:=by simp[Ins.shift,h]
theorem xI (l:List Ins) (b:Int):(dG l b).length=l.length:=by simp[dG]
theorem Jr (v:Value) (l:List Ins) (by':Int) (w:World) (h:ax 5 Ins.cells w v l) (hl:l.length<=300000) :
 Calls Tryz.prog 91 #[v,.int .i64 by'] w λe w'=>∃ v',e = .returned v'/\lH w w' v' (dG l by'):=by
 obtain⟨va,vc,rfl,oC,hvl⟩:=h.form;have HR:=ł h;obtain⟨i0,hi,hz0,hz1,hz2⟩:=info_parts Tryz.J8;obtain⟨w1,hmk,hown,hgr⟩:=run_makeSlice_owned (P:=Tryz.prog) w w.heap.size 42 60 i0 _ 5 Tryz.underlying42 hi hz0 hz1 .i64 .i64 l.length (by omega) (by rw[hz2];omega) (by simp only[maxLen];omega) (Nat.le_refl _);have mX:=ł (show lH w w1 (.slice (some ⟨w.heap.size,0,none⟩) 0 l.length) []from⟨(Mv.refl _ w).grown hgr (λk e=>by cases e),by simpa[dN,flat]using hown⟩);clear h hi hz0 hz1 hz2 hown hgr
 go_enter Tryz.func91,Tryz.ntmps91
 go_wp2_with fail;clear hmk
 go_loopw [5,15] (λcv t wr=>∃ k:Nat,t = .int .i64 k/\k<=l.length/\lH w wr cv (dG (l.take k) by')) (λ_ t _=>l.length - (intOf t).toNat)
 case atStart=>exact⟨0,rfl,Nat.zero_le _,mX.out⟩
 obtain⟨k,rfl,hk,hst⟩:=hrel;have hnl:(dG (l.take k) by').length=k:=by rw[xI];simp;omega
 have ve:=ł (λhlt:k<l.length=>show dG (l.take (k+1)) by'=dG (l.take k) by' ++ [l[k].shift by']from by
  rw[List.take_succ_eq_append_getElem hlt];simp only[dG,List.map_append,List.map_cons,List.map_nil])
 have iA:=ł (show l.take l.length=l from List.take_length);have zP:=ł (λ(e:k=l.length)=>show dG (l.take k) by'=dG l by' from by rw[e,List.take_length]);generalize hcs:dG (l.take k) by'=cs at *;clear hcs;obtain⟨na,nc,rV⟩:=gy hst.row;subst rV;have HST:=ł hst;have wm:=hst.g.size;have hnb:cs.length<=300000:=by omega
 clear hst hnl;by_cases hlt:k<l.length
 · obtain⟨b,off,cap',e,_,_⟩:=(HR.out.later HST.out.g).at hlt;simp only[Value.slice.injEq,true_and]at e;obtain⟨rfl,rfl⟩:=e;obtain⟨⟨c0,c1,c2⟩,c3,c4,hbl⟩:=(HR.out.later HST.out.g).ins hlt;have AY:=ł (ve.out hlt);have HTG:=ł (λw'=>WN l[k] w');have dU:=ł (λt w'=>Iu l[k] t w');have TZ:=ł (λ(h:x8 l[k].op=true)=>Ins.X0 (b:=by') h);have HSN:=ł (λ(h:x8 l[k].op=false)=>Ins.X3 (b:=by') h);generalize hx:l[k]=x at *;obtain⟨xo,xa,xb,xc,xd⟩:=x;simp only at c0 c1 c2 c3 c4;clear hx ve;have lN:=ł (λw'=>XY xo w');go_wp2_with fail;refine(lN.out _).mono ?_;rintro e w' ⟨rfl,rfl⟩;clear lN c0 c1 c2 c3 c4;generalize hmo:x8 xo=mo at *;cases mo with
   |false =>
    have Bi:=ł (HSN.out rfl);obtain⟨a',c',w2,⟨hok,hv,hw⟩,hrow2,bK⟩:=J9 _ ⟨xo,xa,xb,xc,xd⟩ _ _ _ (HST.out.grow ((Mv.refl _ _).alloc (.cells #[.int .u8 xo,.int .i64 xa,.int .i64 xb,.int .i64 xc,.int .i64 xd] 60))).row (by simp;omega) (by omega);rw[World.size_alloc]at hok hv hw;have Cx:=ł ((HST.out.grow ((Mv.refl _ _).alloc (.cells #[.int .u8 xo,.int .i64 xa,.int .i64 xb,.int .i64 xc,.int .i64 xd] 60))).app hrow2 bK);clear hrow2 bK hmo;go_wp2_with fail
    go_roundw
    case rel=>exact⟨k+1,by go_num,by omega,by rw[AY.out,Bi.out];exact Cx.out⟩
    case measure=>(simp[intOf] <;> omega)
   |true =>
    have Bi:=ł (TZ.out rfl);clear hmo;go_wp2_with fail;refine(HTG.out _).mono ?_;rintro e w3 ⟨rfl,qQ⟩;have Ma:w3.heap[wr.heap.size]? = some (.cells #[.int .u8 xo,.int .i64 xa,.int .i64 xb,.int .i64 xc,.int .i64 xd] 60 (0,0)):=by
     rw[qQ.block _ (by simp) (λh=>h)];exact heap_alloc_new wr _
    have hs3:=qQ.size;simp only[World.size_alloc]at hs3;obtain⟨⟨d0,d1,d2⟩,d3,d4⟩:=bR Ma;have lS:=ł Ma;have wS:=ł qQ;clear Ma qQ;generalize htg:Ins.target ⟨xo,xa,xb,xc,xd⟩=tg at *;clear htg;generalize Ins.KJ ⟨xo,xa,xb,xc,xd⟩=am at *;go_wp2_with fail;refine(dU.out _ _).mono ?_;rintro e w4 ⟨rfl,zQ⟩;have GA:w4.heap[wr.heap.size]? = some (.cells #[.int .u8 xo,.int .i64 xa,.int .i64 xb,.int .i64 xc,.int .i64 xd] 60 (0,0)):=by
     rw[zQ.block _ (by omega) (λh=>h)];exact lS.out
    have hs4:=zQ.size;generalize hr:Ins.j6 ⟨xo,xa,xb,xc,xd⟩ (wrap64 (tg+by'))=r at *;obtain⟨ro,ra,rb,rc,rd⟩:=r;obtain⟨⟨f0,f1,f2⟩,f3,f4⟩:=bR GA;have z0:∀ i,w4.frozen? ⟨wr.heap.size,i,none⟩=false:=λi=>by simp[World.frozen?,GA]
    have Bj:=ł GA;have GD:=ł zQ;clear GA zQ d0 d1 d2 d3 d4 hr;go_upto_region 8 with(fail);obtain⟨T9,eX⟩:=kC Bj.out (.int .u8 ro) (.int .i64 ra) (.int .i64 rb) (.int .i64 rc) (.int .i64 rd);generalize ((((w4.setCell ⟨wr.heap.size,0,none⟩ (.int .u8 ro)).setCell ⟨wr.heap.size,1,none⟩ (.int .i64 ra)).setCell ⟨wr.heap.size,2,none⟩ (.int .i64 rb)).setCell ⟨wr.heap.size,3,none⟩ (.int .i64 rc)).setCell ⟨wr.heap.size,4,none⟩ (.int .i64 rd)=w5 at *;have fH:lH w w5 (.slice na cs.length nc) cs:=by
     have h4:=((HST.out.grow ((Mv.refl _ _).alloc (.cells #[.int .u8 xo,.int .i64 xa,.int .i64 xb,.int .i64 xc,.int .i64 xd] 60))).grow wS.out).grow GD.out;refine⟨h4.g.trans eX (λb e => .inr (by omega)),bM h4.row eX (λg hg e => ?_)⟩;have:=(HST.out.row.lt g hg).2;omega
    obtain⟨⟨g0,g1,g2⟩,g3,g4⟩:=bR T9;have hs5:=eX.size;obtain⟨a',c',w6,⟨hok,hv,hw⟩,hrow2,bK⟩:=J9 _ ⟨ro,ra,rb,rc,rd⟩ _ _ _ fH.row (by have:=fH.g.size;omega) (by omega);have Cx:=ł (fH.app hrow2 bK);clear hrow2 bK fH T9 eX f0 f1 f2 f3 f4 z0;go_wp2_with fail
    go_roundw
    case rel=>exact⟨k+1,by go_num,by omega,by rw[AY.out,Bi.out];exact Cx.out⟩
    case measure=>(simp[intOf] <;> omega)
 · have HF:=ł (zP.out (by omega));go_wp2_with fail;go_ret;exact⟨_,rfl,by rw[← HF.out];exact HST.out⟩
theorem OO (w0:World) (C:Nat) (sv:Value) (f:az) (w:World) (cv:Value) (code A:List Ins) (k n p:Int) (s:ByteArray) (kv:Value) (l:List ae) (hst:bD w0 C sv f w cv code) (hf:fV w0 sv f) (hx:aS w0 (.mk k n s kv l)) (hlen:code.length+A.length<=900000) (hk:k=6\/k=7) (h0:0<l.length)
 (he:∀ (w':World) (cv':Value) (code':List Ins),bD w0 C sv f w' cv' code->Calls Tryz.prog 63 #[.pointer (some ⟨C,0,none⟩),l[0].val,.int .i64 p] w' (xN w0 C sv f w' cv' code A)) :
 Calls Tryz.prog 95 #[.pointer (some ⟨C,0,none⟩),ae.val (.mk k n s kv l),.int .i64 p] w (xN w0 C sv f w cv code (A ++ [⟨13,1,0,0,0⟩] ++ (if k=6 then[⟨3,3,1,0,0⟩,⟨8,3,0,0,0⟩]else[⟨9,3,1,2,16⟩]) ++ [⟨12,1,0,0,0⟩,⟨12,3,0,0,0⟩])):=by
 obtain⟨fa,fc,rfl,hfc,hfl⟩:=hf.row.form;obtain⟨b,off,cap,bF,hcap,-⟩:=hx.row.2.2.2.1.at h0;subst bF;simp only[ae.val];clear hf;rcases hk with rfl|rfl
 · simp only[if_true];have hga:Grow w (w.alloc (.cells #[.int .u8 6,.int .i64 n,.string s,.slice (some ⟨b,off,none⟩) l.length cap] 26)):=(Mv.refl _ _).alloc _;have fJ:=ł (hst.grow hga);have HN:=ł (heap_alloc_new w (.cells #[.int .u8 6,.int .i64 n,.string s,.slice (some ⟨b,off,none⟩) l.length cap] 26));have dI:=ł (cK.grow (C:=C) (cv:=cv) hga);have zM:C<w.heap.size:=lt_of_block hst.blk;have HOW:=ł (λg hg=>(hst.row.lt g hg).2);have Cy:=hst.g;have hcc:=(hx.row.2.2.2.1.later Cy).at' h0;have bU:=hx.row.2.2.2.2 l[0] (List.getElem_mem h0);have HE:=ł (he (w.alloc (.cells #[.int .u8 6,.int .i64 n,.string s,.slice (some ⟨b,off,none⟩) l.length cap] 26)) cv code fJ.out);generalize l[0]=y at HE hcc bU;obtain⟨yk,yn,ys,mY,yl⟩:=y;obtain⟨ya,yc,rfl,-,-⟩:=bU.form;simp only[ae.val]at HE;have c0:=hcc 0 _ rfl;have c1:=hcc 1 _ rfl;have c2:=hcc 2 _ rfl;have c3:=hcc 3 _ rfl;simp only[Nat.zero_mul,Nat.add_zero]at c0 c1 c2 c3;have hbl:b<w.heap.size:=World.block_lt_of_cell? w _ c0;clear hst hga hcc bU hx Cy he
   go_enter Tryz.func95,Tryz.ntmps95
   go_wp2_with fail;clear c0 c1 c2 c3;have wm:w.heap.size<(w.alloc (.cells #[.int .u8 6,.int .i64 n,.string s,.slice (some ⟨b,off,none⟩) l.length cap] 26)).heap.size:=by simp
   generalize w.alloc (.cells #[.int .u8 6,.int .i64 n,.string s,.slice (some ⟨b,off,none⟩) l.length cap] 26)=w1 at *;refine HE.out.mono ?_;rintro e u1 ⟨rfl,q1,hs,ht⟩;have bI:=ł hs;have HT1:=ł ht;clear hs ht HE fJ;go_wp2_with fail;refine(gK 13 1 0 u1.heap.size _ _ (heap_alloc_new u1 _)).mono ?_;rintro e oD ⟨rfl,hg⟩;simp only;have hg0:Grow u1 oD:=Mv.trans ((Mv.refl _ u1).alloc _) hg (λ_ e=>e.elim);clear hg;have hgz:Grow u1 (oD.alloc (.cells #[.int .u8 13,.int .i64 1,.int .i64 0,.int .i64 0,.int .i64 0] 60)):=hg0.alloc _;have dJ:=ł (lZ w0 C (.slice fa f.slots.length fc) f _ q1 (code ++ A) (.slice (some ⟨oD.heap.size,0,none⟩) 1 1) ([⟨13,1,0,0,0⟩]:List Ins) (bI.out.grow hgz) (ax.bN (f:=Ins.cells) (l:=([⟨13,1,0,0,0⟩]:List Ins)) (λ_=>rfl) (heap_alloc_new oD _) rfl (by simp)) (by simp;omega));have iU:=ł (HT1.out.trans (cK.grow hgz));clear hgz hg0;go_wp2_with fail;refine dJ.out.mono ?_;rintro e u2 ⟨rfl,q2,hs,ht⟩;have HS2:=ł hs;have HT2:=ł (iU.out.trans ht);clear hs ht dJ iU bI HT1;have fB:u2.heap[w.heap.size]? = some (.cells #[.int .u8 6,.int .i64 n,.string s,.slice (some ⟨b,off,none⟩) l.length cap] 26 (0,0)):=by
    rw[HT2.out.mv.block _ wm (λe=>by rcases e with e|e;omega;have:=HOW.out _ e;omega)];exact HN.out
   obtain⟨⟨n0,n1⟩,n2,n3⟩:=aF fB;have hln:=lt_of_block fB;clear fB;go_wp2_with fail;refine(gK 3 3 1 u2.heap.size _ _ (heap_alloc_new u2 _)).mono ?_;rintro e y20 ⟨rfl,hg⟩;simp only;have hg0:Grow u2 y20:=Mv.trans ((Mv.refl _ u2).alloc _) hg (λ_ e=>e.elim);clear hg;go_wp2_with fail;refine(VO 8 3 y20.heap.size _ _ (heap_alloc_new y20 _)).mono ?_;rintro e y21 ⟨rfl,hg⟩;simp only;have hg1:Grow y20 y21:=Mv.trans ((Mv.refl _ y20).alloc _) hg (λ_ e=>e.elim);clear hg;have hgz:Grow u2 (y21.alloc (.cells #[.int .u8 3,.int .i64 3,.int .i64 1,.int .i64 0,.int .i64 0,.int .u8 8,.int .i64 3,.int .i64 0,.int .i64 0,.int .i64 0] 60)):=(Mv.trans hg0 hg1 (λ_ e=>e.elim)).alloc _;have dJ:=ł (lZ w0 C (.slice fa f.slots.length fc) f _ q2 (code ++ A ++ [⟨13,1,0,0,0⟩]) (.slice (some ⟨y21.heap.size,0,none⟩) 2 2) ([⟨3,3,1,0,0⟩,⟨8,3,0,0,0⟩]:List Ins) (HS2.out.grow hgz) (ax.bN (f:=Ins.cells) (l:=([⟨3,3,1,0,0⟩,⟨8,3,0,0,0⟩]:List Ins)) (λ_=>rfl) (heap_alloc_new y21 _) rfl (by simp)) (by simp;omega));have iU:=ł (HT2.out.trans (cK.grow hgz));clear hgz hg0 hg1;go_wp2_with fail;refine dJ.out.mono ?_;rintro e u3 ⟨rfl,q3,hs,ht⟩;have oF:=ł hs;have HT3:=ł (iU.out.trans ht);clear hs ht dJ iU HS2 HT2;clear n0 n1 n2 n3 hln;go_wp2_with fail;refine(gK 12 1 0 u3.heap.size _ _ (heap_alloc_new u3 _)).mono ?_;rintro e tN ⟨rfl,hg⟩;simp only;have hg0:Grow u3 tN:=Mv.trans ((Mv.refl _ u3).alloc _) hg (λ_ e=>e.elim);clear hg;go_wp2_with fail;refine(gK 12 3 0 tN.heap.size _ _ (heap_alloc_new tN _)).mono ?_;rintro e y31 ⟨rfl,hg⟩;simp only;have hg1:Grow tN y31:=Mv.trans ((Mv.refl _ tN).alloc _) hg (λ_ e=>e.elim);clear hg;have hgz:Grow u3 (y31.alloc (.cells #[.int .u8 12,.int .i64 1,.int .i64 0,.int .i64 0,.int .i64 0,.int .u8 12,.int .i64 3,.int .i64 0,.int .i64 0,.int .i64 0] 60)):=(Mv.trans hg0 hg1 (λ_ e=>e.elim)).alloc _;have dJ:=ł (lZ w0 C (.slice fa f.slots.length fc) f _ q3 (code ++ A ++ [⟨13,1,0,0,0⟩] ++ [⟨3,3,1,0,0⟩,⟨8,3,0,0,0⟩]) (.slice (some ⟨y31.heap.size,0,none⟩) 2 2) ([⟨12,1,0,0,0⟩,⟨12,3,0,0,0⟩]:List Ins) (oF.out.grow hgz) (ax.bN (f:=Ins.cells) (l:=([⟨12,1,0,0,0⟩,⟨12,3,0,0,0⟩]:List Ins)) (λ_=>rfl) (heap_alloc_new y31 _) rfl (by simp)) (by simp;omega));have iU:=ł (HT3.out.trans (cK.grow hgz));clear hgz hg0 hg1;go_wp2_with fail;refine dJ.out.mono ?_;rintro e u4 ⟨rfl,q4,hs,ht⟩;have gW:=ł hs;have yA:=ł (iU.out.trans ht);clear hs ht dJ iU oF HT3;go_wp2_with fail
   go_end0
   exact⟨rfl,_,by have:=gW.out;simpa only[List.append_assoc]using this,dI.out.trans yA.out⟩
 · simp only[show ¬ ((7:Int)=6)from by decide,if_false];have hga:Grow w (w.alloc (.cells #[.int .u8 7,.int .i64 n,.string s,.slice (some ⟨b,off,none⟩) l.length cap] 26)):=(Mv.refl _ _).alloc _;have fJ:=ł (hst.grow hga);have HN:=ł (heap_alloc_new w (.cells #[.int .u8 7,.int .i64 n,.string s,.slice (some ⟨b,off,none⟩) l.length cap] 26));have dI:=ł (cK.grow (C:=C) (cv:=cv) hga);have zM:C<w.heap.size:=lt_of_block hst.blk;have HOW:=ł (λg hg=>(hst.row.lt g hg).2);have Cy:=hst.g;have hcc:=(hx.row.2.2.2.1.later Cy).at' h0;have bU:=hx.row.2.2.2.2 l[0] (List.getElem_mem h0);have HE:=ł (he (w.alloc (.cells #[.int .u8 7,.int .i64 n,.string s,.slice (some ⟨b,off,none⟩) l.length cap] 26)) cv code fJ.out);generalize l[0]=y at HE hcc bU;obtain⟨yk,yn,ys,mY,yl⟩:=y;obtain⟨ya,yc,rfl,-,-⟩:=bU.form;simp only[ae.val]at HE;have c0:=hcc 0 _ rfl;have c1:=hcc 1 _ rfl;have c2:=hcc 2 _ rfl;have c3:=hcc 3 _ rfl;simp only[Nat.zero_mul,Nat.add_zero]at c0 c1 c2 c3;have hbl:b<w.heap.size:=World.block_lt_of_cell? w _ c0;clear hst hga hcc bU hx Cy he
   go_enter Tryz.func95,Tryz.ntmps95
   go_wp2_with fail;clear c0 c1 c2 c3;have wm:w.heap.size<(w.alloc (.cells #[.int .u8 7,.int .i64 n,.string s,.slice (some ⟨b,off,none⟩) l.length cap] 26)).heap.size:=by simp
   generalize w.alloc (.cells #[.int .u8 7,.int .i64 n,.string s,.slice (some ⟨b,off,none⟩) l.length cap] 26)=w1 at *;refine HE.out.mono ?_;rintro e u1 ⟨rfl,q1,hs,ht⟩;have bI:=ł hs;have HT1:=ł ht;clear hs ht HE fJ;go_wp2_with fail;refine(gK 13 1 0 u1.heap.size _ _ (heap_alloc_new u1 _)).mono ?_;rintro e oD ⟨rfl,hg⟩;simp only;have hg0:Grow u1 oD:=Mv.trans ((Mv.refl _ u1).alloc _) hg (λ_ e=>e.elim);clear hg;have hgz:Grow u1 (oD.alloc (.cells #[.int .u8 13,.int .i64 1,.int .i64 0,.int .i64 0,.int .i64 0] 60)):=hg0.alloc _;have dJ:=ł (lZ w0 C (.slice fa f.slots.length fc) f _ q1 (code ++ A) (.slice (some ⟨oD.heap.size,0,none⟩) 1 1) ([⟨13,1,0,0,0⟩]:List Ins) (bI.out.grow hgz) (ax.bN (f:=Ins.cells) (l:=([⟨13,1,0,0,0⟩]:List Ins)) (λ_=>rfl) (heap_alloc_new oD _) rfl (by simp)) (by simp;omega));have iU:=ł (HT1.out.trans (cK.grow hgz));clear hgz hg0;go_wp2_with fail;refine dJ.out.mono ?_;rintro e u2 ⟨rfl,q2,hs,ht⟩;have HS2:=ł hs;have HT2:=ł (iU.out.trans ht);clear hs ht dJ iU bI HT1;have fB:u2.heap[w.heap.size]? = some (.cells #[.int .u8 7,.int .i64 n,.string s,.slice (some ⟨b,off,none⟩) l.length cap] 26 (0,0)):=by
    rw[HT2.out.mv.block _ wm (λe=>by rcases e with e|e;omega;have:=HOW.out _ e;omega)];exact HN.out
   obtain⟨⟨n0,n1⟩,n2,n3⟩:=aF fB;have hln:=lt_of_block fB;clear fB;go_wp2_with fail;refine(Il 9 3 1 2 16 u2.heap.size _ _ (heap_alloc_new u2 _)).mono ?_;rintro e y20 ⟨rfl,hg⟩;simp only;have hg0:Grow u2 y20:=Mv.trans ((Mv.refl _ u2).alloc _) hg (λ_ e=>e.elim);clear hg;have hgz:Grow u2 (y20.alloc (.cells #[.int .u8 9,.int .i64 3,.int .i64 1,.int .i64 2,.int .i64 16] 60)):=hg0.alloc _;have dJ:=ł (lZ w0 C (.slice fa f.slots.length fc) f _ q2 (code ++ A ++ [⟨13,1,0,0,0⟩]) (.slice (some ⟨y20.heap.size,0,none⟩) 1 1) ([⟨9,3,1,2,16⟩]:List Ins) (HS2.out.grow hgz) (ax.bN (f:=Ins.cells) (l:=([⟨9,3,1,2,16⟩]:List Ins)) (λ_=>rfl) (heap_alloc_new y20 _) rfl (by simp)) (by simp;omega));have iU:=ł (HT2.out.trans (cK.grow hgz));clear hgz hg0;go_wp2_with fail;refine dJ.out.mono ?_;rintro e u3 ⟨rfl,q3,hs,ht⟩;have oF:=ł hs;have HT3:=ł (iU.out.trans ht);clear hs ht dJ iU HS2 HT2;clear n0 n1 n2 n3 hln;go_wp2_with fail;refine(gK 12 1 0 u3.heap.size _ _ (heap_alloc_new u3 _)).mono ?_;rintro e tN ⟨rfl,hg⟩;simp only;have hg0:Grow u3 tN:=Mv.trans ((Mv.refl _ u3).alloc _) hg (λ_ e=>e.elim);clear hg;go_wp2_with fail;refine(gK 12 3 0 tN.heap.size _ _ (heap_alloc_new tN _)).mono ?_;rintro e y31 ⟨rfl,hg⟩;simp only;have hg1:Grow tN y31:=Mv.trans ((Mv.refl _ tN).alloc _) hg (λ_ e=>e.elim);clear hg;have hgz:Grow u3 (y31.alloc (.cells #[.int .u8 12,.int .i64 1,.int .i64 0,.int .i64 0,.int .i64 0,.int .u8 12,.int .i64 3,.int .i64 0,.int .i64 0,.int .i64 0] 60)):=(Mv.trans hg0 hg1 (λ_ e=>e.elim)).alloc _;have dJ:=ł (lZ w0 C (.slice fa f.slots.length fc) f _ q3 (code ++ A ++ [⟨13,1,0,0,0⟩] ++ [⟨9,3,1,2,16⟩]) (.slice (some ⟨y31.heap.size,0,none⟩) 2 2) ([⟨12,1,0,0,0⟩,⟨12,3,0,0,0⟩]:List Ins) (oF.out.grow hgz) (ax.bN (f:=Ins.cells) (l:=([⟨12,1,0,0,0⟩,⟨12,3,0,0,0⟩]:List Ins)) (λ_=>rfl) (heap_alloc_new y31 _) rfl (by simp)) (by simp;omega));have iU:=ł (HT3.out.trans (cK.grow hgz));clear hgz hg0 hg1;go_wp2_with fail;refine dJ.out.mono ?_;rintro e u4 ⟨rfl,q4,hs,ht⟩;have gW:=ł hs;have yA:=ł (iU.out.trans ht);clear hs ht dJ iU oF HT3;go_wp2_with fail
   go_end0
   exact⟨rfl,_,by have:=gW.out;simpa only[List.append_assoc]using this,dI.out.trans yA.out⟩
end Go.Proofs.YtnobahchcongnaaGreat
