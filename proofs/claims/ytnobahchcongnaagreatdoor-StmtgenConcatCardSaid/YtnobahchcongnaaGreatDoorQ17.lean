import Derived.Test.YtnobahchcongnaaGreatDoorQ16
import Derived.Deep.CutRange
set_option linter.unusedSimpArgs false
set_option linter.unusedVariables false
set_option maxRecDepth 100000
set_option maxHeartbeats 25600000
namespace Go.Proofs.YtnobahchcongnaaGreatDoor
open Go.RowKit Go.Instr
attribute [local go_sem ↓] mY
theorem WB (op:Int) (w:World) (h0:0≤op) (h1:op≤255):Calls Tryz.prog 48 #[.int .u8 op] w fun e w'=>e = .returned (.int .u8 (Ag op))∧w=w':=by
 by_cases hx:op=22∨op=23∨op=24∨op=25∨op=26∨op=27
 · rcases hx with rfl | rfl | rfl | rfl | rfl | rfl
   all_goals
    go_enter Tryz.func48,Tryz.ntmps48
    go_wp2
    go_ret;exact ⟨rfl,rfl⟩
 · simp only [not_or] at hx;obtain ⟨x1,x2,x3,x4,x5,x6⟩:=hx
   go_enter Tryz.func48,Tryz.ntmps48
   go_wp2
   all_goals (go_ret;exact ⟨gT (by unfold Ag;simp_all),rfl⟩)
theorem VB (i:Ins) (w:World) (h0:0≤i.op) (h1:i.op≤255):Calls Tryz.prog 26 #[i.val] w fun e w'=>e = .returned i.inv.val∧Grow w w':=by
 obtain ⟨op,a,b,c,d⟩:=i;have HC:=ł (fun w=>WB op w h0 h1);have HI:=ł (show (Ins.inv ⟨op,a,b,c,d⟩).val = .agg #[.int .u8 (Ag op),.int .i64 a,.int .i64 b,.int .i64 c,.int .i64 d] from rfl)
 go_enter Tryz.func26,Tryz.ntmps26
 go_wp2_with fail;refine (HC.out _).mono ?_;rintro e w' ⟨rfl,rfl⟩;generalize Ag op=r at *;go_wp2_with fail;refine bodyPost_ret (v := .agg #[.int .u8 r,.int .i64 a,.int .i64 b,.int .i64 c,.int .i64 d]) (by simp [results,Tryz.results26,go_sem]) rfl ⟨by rw [HI.out],((Mv.refl _ _).alloc _).alloc _⟩
theorem I6 (v:Value) (x:Ins) (xs:List Ins) (base:Nat) (w:World) (hrow:dZ w base v xs) (hb:base≤w.heap.size) (hlen:xs.length≤900000) :
 ∃ a' c' w2,(qL Tryz.prog 31 31 v (.slice (some ⟨w.heap.size,0,none⟩) 1 1) (w.alloc (.cells #[.int .u8 x.op,.int .i64 x.a,.int .i64 x.b,.int .i64 x.c,.int .i64 x.d] 57)) ∧
  nk Tryz.prog 31 31 v (.slice (some ⟨w.heap.size,0,none⟩) 1 1) (w.alloc (.cells #[.int .u8 x.op,.int .i64 x.a,.int .i64 x.b,.int .i64 x.c,.int .i64 x.d] 57)) = .slice a' (xs.length+1) c'∧appW Tryz.prog 31 31 v (.slice (some ⟨w.heap.size,0,none⟩) 1 1) (w.alloc (.cells #[.int .u8 x.op,.int .i64 x.a,.int .i64 x.b,.int .i64 x.c,.int .i64 x.d] 57))=w2) ∧
  dZ w2 base (.slice a' (xs.length+1) c') (xs ++ [x])∧Mv (fun b=>v.ownBlock=some b) w w2:=by
 have hs:ax 5 Ins.cells (w.alloc (.cells #[.int .u8 x.op,.int .i64 x.a,.int .i64 x.b,.int .i64 x.c,.int .i64 x.d] 57)) (.slice (some ⟨w.heap.size,0,none⟩) 1 1) [x]:=ax.bH (f:=Ins.cells) (l:=[x]) (fun _=>rfl) (heap_alloc_new w _) (by simp [flat,Ins.cells]) (by simp);obtain ⟨a',c',w2,⟨hok,hv,hw⟩,hrow2,bE,hnew⟩:=oW Tryz.EO (f:=Ins.cells) (fun _=>rfl) v _ xs [x] base _ (bQ hrow (((Mv.refl (fun _=>False) w).alloc _)) (fun _ _ e=>e)) hs EP (by simp;omega) (by simp;omega);exact ⟨a',c',w2,⟨hok,hv,hw⟩,hrow2,((Mv.refl _ w).alloc _).trans bE (fun x e => .inl e)⟩
theorem jQ {w:World} {X:Nat} {a b c d e:Value} {t:TypeId} (h:w.heap[X]? = some (.cells #[a,b,c,d,e] t (0,0))) (p q r s u:Value) :
 (((((w.setCell ⟨X,0,none⟩ p).setCell ⟨X,1,none⟩ q).setCell ⟨X,2,none⟩ r).setCell ⟨X,3,none⟩ s).setCell ⟨X,4,none⟩ u).heap[X]? = some (.cells #[p,q,r,s,u] t (0,0))∧Mv (fun b=>b=X) w (((((w.setCell ⟨X,0,none⟩ p).setCell ⟨X,1,none⟩ q).setCell ⟨X,2,none⟩ r).setCell ⟨X,3,none⟩ s).setCell ⟨X,4,none⟩ u):=by
 constructor
 · have h1:=block_setCell (p:=⟨X,0,none⟩) h rfl p;have h2:=block_setCell (p:=⟨X,1,none⟩) h1 rfl q;have h3:=block_setCell (p:=⟨X,2,none⟩) h2 rfl r;have h4:=block_setCell (p:=⟨X,3,none⟩) h3 rfl s;have h5:=block_setCell (p:=⟨X,4,none⟩) h4 rfl u
   simpa using h5
 · exact (((((Mv.refl (fun b=>b=X) w).setCell (p:=⟨X,0,none⟩) (.inl rfl) p).setCell (p:=⟨X,1,none⟩) (.inl rfl) q).setCell (p:=⟨X,2,none⟩) (.inl rfl) r).setCell (p:=⟨X,3,none⟩) (.inl rfl) s).setCell (p:=⟨X,4,none⟩) (.inl rfl) u
structure kV (w0 wr:World) (v:Value) (l:List Ins):Prop where
 g:Grow w0 wr
 row:dZ wr w0.heap.size v l
theorem kV.grow {w0 wr w2:World} {v:Value} {l:List Ins} (h:kV w0 wr v l) (hm:Grow wr w2):kV w0 w2 v l:=⟨h.g.trans hm (fun _ e=>e.elim),bQ h.row hm (fun _ _ e=>e)⟩
theorem kV.app {w0 wr w2:World} {v v2:Value} {l l2:List Ins} (h:kV w0 wr v l) (h2:dZ w2 w0.heap.size v2 l2) (hm:Mv (fun b=>v.ownBlock=some b) wr w2):kV w0 w2 v2 l2:=⟨h.g.trans hm (fun b e => .inr (h.row.lt b e).1),h2⟩
theorem VC (l:List Ins) (j:Nat) (h:j<l.length):gJ (l.drop j)=gJ (l.drop (j+1)) ++ [l[j].inv]:=by
 rw [List.drop_eq_getElem_cons h];simp only [gJ,List.map_cons,List.reverse_cons]
theorem D7 (l:List Ins):(gJ l).length=l.length:=by simp [gJ]
theorem VD (v:Value) (l:List Ins) (w:World) (h:ax 5 Ins.cells w v l) (hl:l.length≤300000) (hop:∀ x∈l,0≤x.op∧x.op≤255) :
 Calls Tryz.prog 41 #[v] w fun e w'=>∃ v',e = .returned v'∧kV w w' v' (gJ l):=by
 obtain ⟨va,vc,rfl,CX,hvl⟩:=h.form;have HR:=ł h;have xJ:=ł hop;obtain ⟨i0,hi,hz0,hz1,hz2⟩:=info_parts Tryz.I5;obtain ⟨w1,hmk,hown,hgr⟩:=run_makeSlice_owned (P:=Tryz.prog) w w.heap.size 31 57 i0 _ 5 Tryz.underlying31 hi hz0 hz1 .i64 .i64 l.length (by omega) (by rw [hz2];omega) (by simp only [maxLen];omega) (Nat.le_refl _);have qX:=ł (show kV w w1 (.slice (some ⟨w.heap.size,0,none⟩) 0 l.length) [] from ⟨(Mv.refl _ w).grown hgr (fun k e=>by cases e),by simpa [dZ,flat] using hown⟩);clear h hop hi hz0 hz1 hz2 hown hgr
 go_enter Tryz.func41,Tryz.ntmps41
 go_wp2_with fail;clear hmk
 go_loopw [3,4] (fun cv t wr=>∃ i:Int,t = .int .i64 i ∧ -1≤i∧i<l.length∧kV w wr cv (gJ (l.drop (i+1).toNat))) (fun _ t _=>(intOf t+1).toNat)
 case atStart=>exact ⟨_,rfl,by omega,by omega,by
  have e:l.drop ((l.length:Int) - 1+1).toNat=[]:=List.drop_of_length_le (by omega);rw [e];exact qX.out⟩
 obtain ⟨i,rfl,hi1,hi2,hst⟩:=hrel;have HST:=ł hst;clear hst;by_cases h0:0≤i
 · obtain ⟨j,rfl⟩:∃ j:Nat,i=j:=⟨i.toNat,by omega⟩;have hj:j<l.length:=by omega
   obtain ⟨b,off,cap',e,_,_⟩:=(HR.out.later HST.out.g).at hj;simp only [Value.slice.injEq,true_and] at e;obtain ⟨rfl,rfl⟩:=e;obtain ⟨⟨c0,c1,c2⟩,c3,c4,hbl⟩:=(HR.out.later HST.out.g).ins hj;have HU:=ł (show gJ (l.drop ((j:Int) - 1+1).toNat)=gJ (l.drop (j+1)) ++ [l[j].inv] from by
    rw [show ((j:Int) - 1+1).toNat=j from by omega];exact VC l j hj)
   have FE:=ł (show kV w wr _ (gJ (l.drop (j+1))) from by have:=HST.out;rwa [show ((j:Int)+1).toNat=j+1 from by omega] at this);have hcl:(gJ (l.drop (j+1))).length≤300000:=by rw [D7,List.length_drop];omega
   have _5:=ł (fun w'=>VB l[j] w' (xJ.out _ (List.getElem_mem hj)).1 (xJ.out _ (List.getElem_mem hj)).2);clear HST;generalize gJ (l.drop (j+1))=cs at *;obtain ⟨na,nc,rA⟩:=gz FE.out.row;subst rA;generalize hx:l[j]=x at *;generalize hr:x.inv=r at *;obtain ⟨xo,xa,xb,xc,xd⟩:=x;obtain ⟨ro,ra,rb,rc,rd⟩:=r;simp only at c0 c1 c2 c3 c4;clear hx hr;go_wp2_with fail;refine (_5.out _).mono ?_;rintro e w3 ⟨rfl,jq⟩;obtain ⟨a',c',w6,⟨hok,hv,hw⟩,hrow2,bE⟩:=I6 _ ⟨ro,ra,rb,rc,rd⟩ cs _ w3 (FE.out.grow jq).row (FE.out.grow jq).g.size (by omega);have BR:=ł ((FE.out.grow jq).app hrow2 bE);clear hrow2 bE jq c0 c1 c2 c3 c4;simp only at hok hv hw;go_wp2_with fail
   go_roundw
   case rel=>exact ⟨_,by go_num,by omega,by omega,by rw [HU.out];exact BR.out⟩
   case measure=>(simp [intOf] <;> omega)
 · have HF:=ł (show kV w wr _ (gJ l) from by have:=HST.out;rwa [show (i+1).toNat=0 from by omega,List.drop_zero] at this);clear HST;go_wp2_with fail;go_ret;exact ⟨_,rfl,HF.out⟩
theorem Ins.WC {i:Ins} {b:Int} (h:eG i.op=true):i.shift b=i.dE (wrap64 (i.target+b)):=by simp [Ins.shift,h]
theorem Ins.WE {i:Ins} {b:Int} (h:eG i.op=false):i.shift b=i:=by simp [Ins.shift,h]
theorem uS (l:List Ins) (b:Int):(bU l b).length=l.length:=by simp [bU]
theorem Ik (v:Value) (l:List Ins) (by':Int) (w:World) (h:ax 5 Ins.cells w v l) (hl:l.length≤300000) :
 Calls Tryz.prog 47 #[v,.int .i64 by'] w fun e w'=>∃ v',e = .returned v'∧kV w w' v' (bU l by'):=by
 obtain ⟨va,vc,rfl,CX,hvl⟩:=h.form;have HR:=ł h;obtain ⟨i0,hi,hz0,hz1,hz2⟩:=info_parts Tryz.I5;obtain ⟨w1,hmk,hown,hgr⟩:=run_makeSlice_owned (P:=Tryz.prog) w w.heap.size 31 57 i0 _ 5 Tryz.underlying31 hi hz0 hz1 .i64 .i64 l.length (by omega) (by rw [hz2];omega) (by simp only [maxLen];omega) (Nat.le_refl _);have qX:=ł (show kV w w1 (.slice (some ⟨w.heap.size,0,none⟩) 0 l.length) [] from ⟨(Mv.refl _ w).grown hgr (fun k e=>by cases e),by simpa [dZ,flat] using hown⟩);clear h hi hz0 hz1 hz2 hown hgr
 go_enter Tryz.func47,Tryz.ntmps47
 go_wp2_with fail;clear hmk
 go_loopw [5,15] (fun cv t wr=>∃ k:Nat,t = .int .i64 k∧k≤l.length∧kV w wr cv (bU (l.take k) by')) (fun _ t _=>l.length - (intOf t).toNat)
 case atStart=>exact ⟨0,rfl,Nat.zero_le _,qX.out⟩
 obtain ⟨k,rfl,hk,hst⟩:=hrel;have hnl:(bU (l.take k) by').length=k:=by rw [uS];simp;omega
 have uH:=ł (fun hlt:k<l.length=>show bU (l.take (k+1)) by'=bU (l.take k) by' ++ [l[k].shift by'] from by
  rw [List.take_succ_eq_append_getElem hlt];simp only [bU,List.map_append,List.map_cons,List.map_nil])
 have gM:=ł (show l.take l.length=l from List.take_length);have CY:=ł (fun (e:k=l.length)=>show bU (l.take k) by'=bU l by' from by rw [e,List.take_length]);generalize hcs:bU (l.take k) by'=cs at *;clear hcs;obtain ⟨na,nc,rA⟩:=gz hst.row;subst rA;have HST:=ł hst;have vJ:=hst.g.size;have hnb:cs.length≤300000:=by omega
 clear hst hnl;by_cases hlt:k<l.length
 · obtain ⟨b,off,cap',e,_,_⟩:=(HR.out.later HST.out.g).at hlt;simp only [Value.slice.injEq,true_and] at e;obtain ⟨rfl,rfl⟩:=e;obtain ⟨⟨c0,c1,c2⟩,c3,c4,hbl⟩:=(HR.out.later HST.out.g).ins hlt;have Al:=ł (uH.out hlt);have _6:=ł (fun w'=>Ho l[k] w');have bZ:=ł (fun t w'=>G8 l[k] t w');have _7:=ł (fun (h:eG l[k].op=true)=>Ins.WC (b:=by') h);have _8:=ł (fun (h:eG l[k].op=false)=>Ins.WE (b:=by') h);generalize hx:l[k]=x at *;obtain ⟨xo,xa,xb,xc,xd⟩:=x;simp only at c0 c1 c2 c3 c4;clear hx uH;have mO:=ł (fun w'=>Nn xo w');go_wp2_with fail;refine (mO.out _).mono ?_;rintro e w' ⟨rfl,rfl⟩;clear mO c0 c1 c2 c3 c4;generalize hmo:eG xo=mo at *;cases mo with
   | false =>
    have AJ:=ł (_8.out rfl);obtain ⟨a',c',w2,⟨hok,hv,hw⟩,hrow2,bE⟩:=I6 _ ⟨xo,xa,xb,xc,xd⟩ _ _ _ (HST.out.grow ((Mv.refl _ _).alloc (.cells #[.int .u8 xo,.int .i64 xa,.int .i64 xb,.int .i64 xc,.int .i64 xd] 57))).row (by simp;omega) (by omega);rw [World.size_alloc] at hok hv hw;have BR:=ł ((HST.out.grow ((Mv.refl _ _).alloc (.cells #[.int .u8 xo,.int .i64 xa,.int .i64 xb,.int .i64 xc,.int .i64 xd] 57))).app hrow2 bE);clear hrow2 bE hmo;go_wp2_with fail
    go_roundw
    case rel=>exact ⟨k+1,by go_num,by omega,by rw [Al.out,AJ.out];exact BR.out⟩
    case measure=>(simp [intOf] <;> omega)
   | true =>
    have AJ:=ł (_7.out rfl);clear hmo;go_wp2_with fail;refine (_6.out _).mono ?_;rintro e w3 ⟨rfl,jq⟩;have Gg:w3.heap[wr.heap.size]? = some (.cells #[.int .u8 xo,.int .i64 xa,.int .i64 xb,.int .i64 xc,.int .i64 xd] 57 (0,0)):=by
     rw [jq.block _ (by simp) (fun h=>h)];exact heap_alloc_new wr _
    have hs3:=jq.size;simp only [World.size_alloc] at hs3;obtain ⟨⟨d0,d1,d2⟩,d3,d4⟩:=bR Gg;have KE:=ł Gg;have vX:=ł jq;clear Gg jq;generalize _9:Ins.target ⟨xo,xa,xb,xc,xd⟩=tg at *;clear _9;generalize Ins.Fu ⟨xo,xa,xb,xc,xd⟩=am at *;go_wp2_with fail;refine (bZ.out _ _).mono ?_;rintro e w4 ⟨rfl,Gh⟩;have Gi:w4.heap[wr.heap.size]? = some (.cells #[.int .u8 xo,.int .i64 xa,.int .i64 xb,.int .i64 xc,.int .i64 xd] 57 (0,0)):=by
     rw [Gh.block _ (by omega) (fun h=>h)];exact KE.out
    have hs4:=Gh.size;generalize hr:Ins.dE ⟨xo,xa,xb,xc,xd⟩ (wrap64 (tg+by'))=r at *;obtain ⟨ro,ra,rb,rc,rd⟩:=r;obtain ⟨⟨f0,f1,f2⟩,f3,f4⟩:=bR Gi;have z0:∀ i,w4.frozen? ⟨wr.heap.size,i,none⟩=false:=fun i=>by simp [World.frozen?,Gi]
    have HX4:=ł Gi;have HM4:=ł Gh;clear Gi Gh d0 d1 d2 d3 d4 hr;go_upto_region 8 with (fail);obtain ⟨Sw,oC⟩:=jQ HX4.out (.int .u8 ro) (.int .i64 ra) (.int .i64 rb) (.int .i64 rc) (.int .i64 rd);generalize ((((w4.setCell ⟨wr.heap.size,0,none⟩ (.int .u8 ro)).setCell ⟨wr.heap.size,1,none⟩ (.int .i64 ra)).setCell ⟨wr.heap.size,2,none⟩ (.int .i64 rb)).setCell ⟨wr.heap.size,3,none⟩ (.int .i64 rc)).setCell ⟨wr.heap.size,4,none⟩ (.int .i64 rd)=w5 at *;have uy:kV w w5 (.slice na cs.length nc) cs:=by
     have h4:=((HST.out.grow ((Mv.refl _ _).alloc (.cells #[.int .u8 xo,.int .i64 xa,.int .i64 xb,.int .i64 xc,.int .i64 xd] 57))).grow vX.out).grow HM4.out;refine ⟨h4.g.trans oC (fun b e => .inr (by omega)),bQ h4.row oC (fun g hg e => ?_)⟩;have:=(HST.out.row.lt g hg).2;omega
    obtain ⟨⟨g0,g1,g2⟩,g3,g4⟩:=bR Sw;have hs5:=oC.size;obtain ⟨a',c',w6,⟨hok,hv,hw⟩,hrow2,bE⟩:=I6 _ ⟨ro,ra,rb,rc,rd⟩ _ _ _ uy.row (by have:=uy.g.size;omega) (by omega);have BR:=ł (uy.app hrow2 bE);clear hrow2 bE uy Sw oC f0 f1 f2 f3 f4 z0;go_wp2_with fail
    go_roundw
    case rel=>exact ⟨k+1,by go_num,by omega,by rw [Al.out,AJ.out];exact BR.out⟩
    case measure=>(simp [intOf] <;> omega)
 · have HF:=ł (CY.out (by omega));go_wp2_with fail;go_ret;exact ⟨_,rfl,by rw [← HF.out];exact HST.out⟩
theorem Np (w0:World) (C:Nat) (sv:Value) (f:az) (w:World) (cv:Value) (code A:List Ins) (k n p:Int) (s:ByteArray) (kv:Value) (l:List ae) (hst:bB w0 C sv f w cv code) (hf:fF w0 sv f) (hx:aV w0 (.mk k n s kv l)) (hlen:code.length+A.length≤900000) (hk:k=6∨k=7) (h0:0<l.length)
 (he:∀ (w':World) (cv':Value) (code':List Ins),bB w0 C sv f w' cv' code→Calls Tryz.prog 72 #[.pointer (some ⟨C,0,none⟩),l[0].val,.int .i64 p] w' (wX w0 C sv f w' cv' code A)) :
 Calls Tryz.prog 92 #[.pointer (some ⟨C,0,none⟩),ae.val (.mk k n s kv l),.int .i64 p] w (wX w0 C sv f w cv code (A ++ [⟨13,1,0,0,0⟩] ++ (if k=6 then [⟨3,3,1,0,0⟩,⟨8,3,0,0,0⟩] else [⟨9,3,1,2,16⟩]) ++ [⟨12,1,0,0,0⟩,⟨12,3,0,0,0⟩])):=by
 obtain ⟨fa,fc,rfl,hfc,hfl⟩:=hf.row.form;obtain ⟨b,off,cap,cz,hcap,-⟩:=hx.row.2.2.2.1.at h0;subst cz;simp only [ae.val];clear hf;rcases hk with rfl | rfl
 · simp only [if_true];have hga:Grow w (w.alloc (.cells #[.int .u8 6,.int .i64 n,.string s,.slice (some ⟨b,off,none⟩) l.length cap] 24)):=(Mv.refl _ _).alloc _;have fM:=ł (hst.grow hga);have HN:=ł (heap_alloc_new w (.cells #[.int .u8 6,.int .i64 n,.string s,.slice (some ⟨b,off,none⟩) l.length cap] 24));have dR:=ł (df.grow (C:=C) (cv:=cv) hga);have yZ:C<w.heap.size:=lt_of_block hst.blk;have HOW:=ł (fun g hg=>(hst.row.lt g hg).2);have BS:=hst.g;have hcc:=(hx.row.2.2.2.1.later BS).at' h0;have aX:=hx.row.2.2.2.2 l[0] (List.getElem_mem h0);have HE:=ł (he (w.alloc (.cells #[.int .u8 6,.int .i64 n,.string s,.slice (some ⟨b,off,none⟩) l.length cap] 24)) cv code fM.out);generalize l[0]=y at HE hcc aX;obtain ⟨yk,yn,ys,jf,yl⟩:=y;obtain ⟨ya,yc,rfl,-,-⟩:=aX.form;simp only [ae.val] at HE;have c0:=hcc 0 _ rfl;have c1:=hcc 1 _ rfl;have c2:=hcc 2 _ rfl;have c3:=hcc 3 _ rfl;simp only [Nat.zero_mul,Nat.add_zero] at c0 c1 c2 c3;have hbl:b<w.heap.size:=World.block_lt_of_cell? w _ c0;clear hst hga hcc aX hx BS he
   go_enter Tryz.func92,Tryz.ntmps92
   go_wp2_with fail;clear c0 c1 c2 c3;have vJ:w.heap.size<(w.alloc (.cells #[.int .u8 6,.int .i64 n,.string s,.slice (some ⟨b,off,none⟩) l.length cap] 24)).heap.size:=by simp
   generalize w.alloc (.cells #[.int .u8 6,.int .i64 n,.string s,.slice (some ⟨b,off,none⟩) l.length cap] 24)=w1 at *;refine HE.out.mono ?_;rintro e u1 ⟨rfl,q1,hs,ht⟩;have bG:=ł hs;have HT1:=ł ht;clear hs ht HE fM;go_wp2_with fail;refine (gy 13 1 0 u1.heap.size _ _ (heap_alloc_new u1 _)).mono ?_;rintro e nI ⟨rfl,hg⟩;simp only;have hg0:Grow u1 nI:=Mv.trans ((Mv.refl _ u1).alloc _) hg (fun _ e=>e.elim);clear hg;have hgz:Grow u1 (nI.alloc (.cells #[.int .u8 13,.int .i64 1,.int .i64 0,.int .i64 0,.int .i64 0] 57)):=hg0.alloc _;have dS:=ł (lH w0 C (.slice fa f.slots.length fc) f _ q1 (code ++ A) (.slice (some ⟨nI.heap.size,0,none⟩) 1 1) ([⟨13,1,0,0,0⟩]:List Ins) (bG.out.grow hgz) (ax.bH (f:=Ins.cells) (l:=([⟨13,1,0,0,0⟩]:List Ins)) (fun _=>rfl) (heap_alloc_new nI _) rfl (by simp)) (by simp;omega));have iy:=ł (HT1.out.trans (df.grow hgz));clear hgz hg0;go_wp2_with fail;refine dS.out.mono ?_;rintro e u2 ⟨rfl,q2,hs,ht⟩;have HS2:=ł hs;have HT2:=ł (iy.out.trans ht);clear hs ht dS iy bG HT1;have bX:u2.heap[w.heap.size]? = some (.cells #[.int .u8 6,.int .i64 n,.string s,.slice (some ⟨b,off,none⟩) l.length cap] 24 (0,0)):=by
    rw [HT2.out.mv.block _ vJ (fun e=>by rcases e with e | e;omega;have:=HOW.out _ e;omega)];exact HN.out
   obtain ⟨⟨n0,n1⟩,n2,n3⟩:=aF bX;have hln:=lt_of_block bX;clear bX;go_wp2_with fail;refine (gy 3 3 1 u2.heap.size _ _ (heap_alloc_new u2 _)).mono ?_;rintro e y20 ⟨rfl,hg⟩;simp only;have hg0:Grow u2 y20:=Mv.trans ((Mv.refl _ u2).alloc _) hg (fun _ e=>e.elim);clear hg;go_wp2_with fail;refine (Uw 8 3 y20.heap.size _ _ (heap_alloc_new y20 _)).mono ?_;rintro e y21 ⟨rfl,hg⟩;simp only;have hg1:Grow y20 y21:=Mv.trans ((Mv.refl _ y20).alloc _) hg (fun _ e=>e.elim);clear hg;have hgz:Grow u2 (y21.alloc (.cells #[.int .u8 3,.int .i64 3,.int .i64 1,.int .i64 0,.int .i64 0,.int .u8 8,.int .i64 3,.int .i64 0,.int .i64 0,.int .i64 0] 57)):=(Mv.trans hg0 hg1 (fun _ e=>e.elim)).alloc _;have dS:=ł (lH w0 C (.slice fa f.slots.length fc) f _ q2 (code ++ A ++ [⟨13,1,0,0,0⟩]) (.slice (some ⟨y21.heap.size,0,none⟩) 2 2) ([⟨3,3,1,0,0⟩,⟨8,3,0,0,0⟩]:List Ins) (HS2.out.grow hgz) (ax.bH (f:=Ins.cells) (l:=([⟨3,3,1,0,0⟩,⟨8,3,0,0,0⟩]:List Ins)) (fun _=>rfl) (heap_alloc_new y21 _) rfl (by simp)) (by simp;omega));have iy:=ł (HT2.out.trans (df.grow hgz));clear hgz hg0 hg1;go_wp2_with fail;refine dS.out.mono ?_;rintro e u3 ⟨rfl,q3,hs,ht⟩;have nJ:=ł hs;have HT3:=ł (iy.out.trans ht);clear hs ht dS iy HS2 HT2;clear n0 n1 n2 n3 hln;go_wp2_with fail;refine (gy 12 1 0 u3.heap.size _ _ (heap_alloc_new u3 _)).mono ?_;rintro e sS ⟨rfl,hg⟩;simp only;have hg0:Grow u3 sS:=Mv.trans ((Mv.refl _ u3).alloc _) hg (fun _ e=>e.elim);clear hg;go_wp2_with fail;refine (gy 12 3 0 sS.heap.size _ _ (heap_alloc_new sS _)).mono ?_;rintro e y31 ⟨rfl,hg⟩;simp only;have hg1:Grow sS y31:=Mv.trans ((Mv.refl _ sS).alloc _) hg (fun _ e=>e.elim);clear hg;have hgz:Grow u3 (y31.alloc (.cells #[.int .u8 12,.int .i64 1,.int .i64 0,.int .i64 0,.int .i64 0,.int .u8 12,.int .i64 3,.int .i64 0,.int .i64 0,.int .i64 0] 57)):=(Mv.trans hg0 hg1 (fun _ e=>e.elim)).alloc _;have dS:=ł (lH w0 C (.slice fa f.slots.length fc) f _ q3 (code ++ A ++ [⟨13,1,0,0,0⟩] ++ [⟨3,3,1,0,0⟩,⟨8,3,0,0,0⟩]) (.slice (some ⟨y31.heap.size,0,none⟩) 2 2) ([⟨12,1,0,0,0⟩,⟨12,3,0,0,0⟩]:List Ins) (nJ.out.grow hgz) (ax.bH (f:=Ins.cells) (l:=([⟨12,1,0,0,0⟩,⟨12,3,0,0,0⟩]:List Ins)) (fun _=>rfl) (heap_alloc_new y31 _) rfl (by simp)) (by simp;omega));have iy:=ł (HT3.out.trans (df.grow hgz));clear hgz hg0 hg1;go_wp2_with fail;refine dS.out.mono ?_;rintro e u4 ⟨rfl,q4,hs,ht⟩;have gH:=ł hs;have xK:=ł (iy.out.trans ht);clear hs ht dS iy nJ HT3;go_wp2_with fail
   go_end0
   exact ⟨rfl,_,by have:=gH.out;simpa only [List.append_assoc] using this,dR.out.trans xK.out⟩
 · simp only [show ¬ ((7:Int)=6) from by decide,if_false];have hga:Grow w (w.alloc (.cells #[.int .u8 7,.int .i64 n,.string s,.slice (some ⟨b,off,none⟩) l.length cap] 24)):=(Mv.refl _ _).alloc _;have fM:=ł (hst.grow hga);have HN:=ł (heap_alloc_new w (.cells #[.int .u8 7,.int .i64 n,.string s,.slice (some ⟨b,off,none⟩) l.length cap] 24));have dR:=ł (df.grow (C:=C) (cv:=cv) hga);have yZ:C<w.heap.size:=lt_of_block hst.blk;have HOW:=ł (fun g hg=>(hst.row.lt g hg).2);have BS:=hst.g;have hcc:=(hx.row.2.2.2.1.later BS).at' h0;have aX:=hx.row.2.2.2.2 l[0] (List.getElem_mem h0);have HE:=ł (he (w.alloc (.cells #[.int .u8 7,.int .i64 n,.string s,.slice (some ⟨b,off,none⟩) l.length cap] 24)) cv code fM.out);generalize l[0]=y at HE hcc aX;obtain ⟨yk,yn,ys,jf,yl⟩:=y;obtain ⟨ya,yc,rfl,-,-⟩:=aX.form;simp only [ae.val] at HE;have c0:=hcc 0 _ rfl;have c1:=hcc 1 _ rfl;have c2:=hcc 2 _ rfl;have c3:=hcc 3 _ rfl;simp only [Nat.zero_mul,Nat.add_zero] at c0 c1 c2 c3;have hbl:b<w.heap.size:=World.block_lt_of_cell? w _ c0;clear hst hga hcc aX hx BS he
   go_enter Tryz.func92,Tryz.ntmps92
   go_wp2_with fail;clear c0 c1 c2 c3;have vJ:w.heap.size<(w.alloc (.cells #[.int .u8 7,.int .i64 n,.string s,.slice (some ⟨b,off,none⟩) l.length cap] 24)).heap.size:=by simp
   generalize w.alloc (.cells #[.int .u8 7,.int .i64 n,.string s,.slice (some ⟨b,off,none⟩) l.length cap] 24)=w1 at *;refine HE.out.mono ?_;rintro e u1 ⟨rfl,q1,hs,ht⟩;have bG:=ł hs;have HT1:=ł ht;clear hs ht HE fM;go_wp2_with fail;refine (gy 13 1 0 u1.heap.size _ _ (heap_alloc_new u1 _)).mono ?_;rintro e nI ⟨rfl,hg⟩;simp only;have hg0:Grow u1 nI:=Mv.trans ((Mv.refl _ u1).alloc _) hg (fun _ e=>e.elim);clear hg;have hgz:Grow u1 (nI.alloc (.cells #[.int .u8 13,.int .i64 1,.int .i64 0,.int .i64 0,.int .i64 0] 57)):=hg0.alloc _;have dS:=ł (lH w0 C (.slice fa f.slots.length fc) f _ q1 (code ++ A) (.slice (some ⟨nI.heap.size,0,none⟩) 1 1) ([⟨13,1,0,0,0⟩]:List Ins) (bG.out.grow hgz) (ax.bH (f:=Ins.cells) (l:=([⟨13,1,0,0,0⟩]:List Ins)) (fun _=>rfl) (heap_alloc_new nI _) rfl (by simp)) (by simp;omega));have iy:=ł (HT1.out.trans (df.grow hgz));clear hgz hg0;go_wp2_with fail;refine dS.out.mono ?_;rintro e u2 ⟨rfl,q2,hs,ht⟩;have HS2:=ł hs;have HT2:=ł (iy.out.trans ht);clear hs ht dS iy bG HT1;have bX:u2.heap[w.heap.size]? = some (.cells #[.int .u8 7,.int .i64 n,.string s,.slice (some ⟨b,off,none⟩) l.length cap] 24 (0,0)):=by
    rw [HT2.out.mv.block _ vJ (fun e=>by rcases e with e | e;omega;have:=HOW.out _ e;omega)];exact HN.out
   obtain ⟨⟨n0,n1⟩,n2,n3⟩:=aF bX;have hln:=lt_of_block bX;clear bX;go_wp2_with fail;refine (G5 9 3 1 2 16 u2.heap.size _ _ (heap_alloc_new u2 _)).mono ?_;rintro e y20 ⟨rfl,hg⟩;simp only;have hg0:Grow u2 y20:=Mv.trans ((Mv.refl _ u2).alloc _) hg (fun _ e=>e.elim);clear hg;have hgz:Grow u2 (y20.alloc (.cells #[.int .u8 9,.int .i64 3,.int .i64 1,.int .i64 2,.int .i64 16] 57)):=hg0.alloc _;have dS:=ł (lH w0 C (.slice fa f.slots.length fc) f _ q2 (code ++ A ++ [⟨13,1,0,0,0⟩]) (.slice (some ⟨y20.heap.size,0,none⟩) 1 1) ([⟨9,3,1,2,16⟩]:List Ins) (HS2.out.grow hgz) (ax.bH (f:=Ins.cells) (l:=([⟨9,3,1,2,16⟩]:List Ins)) (fun _=>rfl) (heap_alloc_new y20 _) rfl (by simp)) (by simp;omega));have iy:=ł (HT2.out.trans (df.grow hgz));clear hgz hg0;go_wp2_with fail;refine dS.out.mono ?_;rintro e u3 ⟨rfl,q3,hs,ht⟩;have nJ:=ł hs;have HT3:=ł (iy.out.trans ht);clear hs ht dS iy HS2 HT2;clear n0 n1 n2 n3 hln;go_wp2_with fail;refine (gy 12 1 0 u3.heap.size _ _ (heap_alloc_new u3 _)).mono ?_;rintro e sS ⟨rfl,hg⟩;simp only;have hg0:Grow u3 sS:=Mv.trans ((Mv.refl _ u3).alloc _) hg (fun _ e=>e.elim);clear hg;go_wp2_with fail;refine (gy 12 3 0 sS.heap.size _ _ (heap_alloc_new sS _)).mono ?_;rintro e y31 ⟨rfl,hg⟩;simp only;have hg1:Grow sS y31:=Mv.trans ((Mv.refl _ sS).alloc _) hg (fun _ e=>e.elim);clear hg;have hgz:Grow u3 (y31.alloc (.cells #[.int .u8 12,.int .i64 1,.int .i64 0,.int .i64 0,.int .i64 0,.int .u8 12,.int .i64 3,.int .i64 0,.int .i64 0,.int .i64 0] 57)):=(Mv.trans hg0 hg1 (fun _ e=>e.elim)).alloc _;have dS:=ł (lH w0 C (.slice fa f.slots.length fc) f _ q3 (code ++ A ++ [⟨13,1,0,0,0⟩] ++ [⟨9,3,1,2,16⟩]) (.slice (some ⟨y31.heap.size,0,none⟩) 2 2) ([⟨12,1,0,0,0⟩,⟨12,3,0,0,0⟩]:List Ins) (nJ.out.grow hgz) (ax.bH (f:=Ins.cells) (l:=([⟨12,1,0,0,0⟩,⟨12,3,0,0,0⟩]:List Ins)) (fun _=>rfl) (heap_alloc_new y31 _) rfl (by simp)) (by simp;omega));have iy:=ł (HT3.out.trans (df.grow hgz));clear hgz hg0 hg1;go_wp2_with fail;refine dS.out.mono ?_;rintro e u4 ⟨rfl,q4,hs,ht⟩;have gH:=ł hs;have xK:=ł (iy.out.trans ht);clear hs ht dS iy nJ HT3;go_wp2_with fail
   go_end0
   exact ⟨rfl,_,by have:=gH.out;simpa only [List.append_assoc] using this,dR.out.trans xK.out⟩
end Go.Proofs.YtnobahchcongnaaGreatDoor
