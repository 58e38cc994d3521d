import Derived.Test.YtnobahchcongnaaGreatDoorQ29
set_option linter.unusedSimpArgs false
set_option linter.unusedVariables false
set_option maxRecDepth 100000
set_option maxHeartbeats 25600000
namespace Go.Proofs.YtnobahchcongnaaGreatDoor
open Go.RowKit Go.Instr
def si (k n:Int):Bool:=if k=1∨k=3 then n == 0 else if k=2 then decide (1≤n) && decide (n≤16) else false
def bq.okB (v:bq):Bool:=si v.kind v.len
def jH (l:List bq):Bool:=decide (l.length≤32) && l.all bq.okB
theorem Ux (l:List bq) (k:Nat) (h:k<l.length):(l.take (k+1)).all bq.okB=((l.take k).all bq.okB && l[k].okB):=by
 rw [List.take_succ_eq_append_getElem h,List.all_append];simp
theorem VH (l:List bq) (k:Nat) (h:k<l.length) (hf:l[k].okB=false):l.all bq.okB=false:=by
 apply Bool.eq_false_iff.2;intro ha;have:=List.all_eq_true.1 ha l[k] (List.getElem_mem h);rw [hf] at this;cases this
theorem VJ (v:Value) (l:List bq) (w:World) (h:ax 3 bq.cells w v l):Calls Tryz.prog 63 #[v] w (jN w (jH l)):=by
 obtain ⟨va,vc,rfl,CX,hvl⟩:=h.form;have HR:=ł h;clear h;by_cases h32:l.length≤32
 · have HV:=ł (show jH l=l.all bq.okB from by simp [jH,h32])
   go_enter Tryz.func63,Tryz.ntmps63
   go_wp2_with fail
   go_loopw [10] (fun t wr=>∃ k:Nat,t = .int .i64 k∧k≤l.length∧Grow w wr∧(l.take k).all bq.okB=true) (fun t _=>l.length - (intOf t).toNat)
   case atStart=>exact ⟨0,rfl,Nat.zero_le _,Mv.refl _ _,rfl⟩
   obtain ⟨k,rfl,hk,hg,hall⟩:=hrel;have HG:=ł hg;have HA:=ł hall;clear hall hg;by_cases hlt:k<l.length
   · obtain ⟨b,off,cap',e,_,hcc⟩:=(HR.out.later HG.out).at hlt;simp only [Value.slice.injEq,true_and] at e;obtain ⟨rfl,rfl⟩:=e;have c0:=hcc 0 _ rfl;have c1:=hcc 1 _ rfl;have c2:=hcc 2 _ rfl;have HT:=ł (fun (h:l[k].okB=true)=>show (l.take (k+1)).all bq.okB=true from by rw [Ux l k hlt,HA.out,h];rfl);have HF:=ł (fun (h:l[k].okB=false)=>show jH l=false from by rw [HV.out];exact VH l k hlt h);have nS:=ł (show l[k].okB=si l[k].kind l[k].len from rfl);generalize l[k]=x at *;obtain ⟨xs,xk,xn⟩:=x;simp only [Nat.add_zero] at c0 c1 c2 nS;have hbl:b<wr.heap.size:=World.block_lt_of_cell? wr _ c0;clear hcc;have hcs:xk=1∨xk=3∨xk=2∨(xk≠1∧xk≠3∧xk≠2):=by omega
     rcases hcs with rfl | rfl | rfl | ⟨n1,n3,n2⟩
     · by_cases hn:xn=0
       · subst hn;have HX:=ł (HT.out (by rw [nS.out];rfl));clear HT HF;go_wp2_with fail
         go_roundw
         case rel=>exact ⟨k+1,by go_num,by omega,HG.out.alloc _,HX.out⟩
         case measure=>(simp [intOf] <;> omega)
       · have HX:=ł (HF.out (by rw [nS.out];simp [si,hn]));have hb:(xn != 0)=true:=by simpa using hn
         clear HT HF hn;go_wp2_with fail;go_ret;exact ⟨aD HX.out.symm,HG.out.alloc _⟩
     · by_cases hn:xn=0
       · subst hn;have HX:=ł (HT.out (by rw [nS.out];rfl));clear HT HF;go_wp2_with fail
         go_roundw
         case rel=>exact ⟨k+1,by go_num,by omega,HG.out.alloc _,HX.out⟩
         case measure=>(simp [intOf] <;> omega)
       · have HX:=ł (HF.out (by rw [nS.out];simp [si,hn]));have hb:(xn != 0)=true:=by simpa using hn
         clear HT HF hn;go_wp2_with fail;go_ret;exact ⟨aD HX.out.symm,HG.out.alloc _⟩
     · by_cases h1:1≤xn
       · by_cases h16:xn≤16
         · have HX:=ł (HT.out (by rw [nS.out];simp [si,h1,h16]));have hd1:decide (xn<1)=false:=by simp;omega
           have hd2:decide (16<xn)=false:=by simp;omega
           clear HT HF;go_wp2_with fail
           go_roundw
           case rel=>exact ⟨k+1,by go_num,by omega,HG.out.alloc _,HX.out⟩
           case measure=>(simp [intOf] <;> omega)
         · have HX:=ł (HF.out (by rw [nS.out];simp [si];omega));have hd1:decide (xn<1)=false:=by simp;omega
           have hd2:decide (16<xn)=true:=by simp;omega
           clear HT HF;go_wp2_with fail;go_ret;exact ⟨aD HX.out.symm,HG.out.alloc _⟩
       · have HX:=ł (HF.out (by rw [nS.out];simp [si];omega));have hd1:decide (xn<1)=true:=by simp;omega
         clear HT HF;go_wp2_with fail;go_ret;exact ⟨aD HX.out.symm,HG.out.alloc _⟩
     · have HX:=ł (HF.out (by rw [nS.out];simp [si,n1,n2,n3]));have e1:(xk == 1)=false:=by simpa using n1
       have e2:(xk == 2)=false:=by simpa using n2
       have e3:(xk == 3)=false:=by simpa using n3
       clear HT HF n1 n2 n3;go_wp2_with fail;go_ret;exact ⟨aD HX.out.symm,HG.out.alloc _⟩
   · have HX:=ł (show jH l=true from by rw [HV.out,← HA.out,show k=l.length from by omega,List.take_length]);go_wp2_with fail;go_ret;exact ⟨aD HX.out.symm,HG.out⟩
 · have HV:=ł (show jH l=false from by simp [jH,h32]);have hd:decide (32<(l.length:Int))=true:=by simp;omega
   go_enter Tryz.func63,Tryz.ntmps63
   go_wp2_with fail;go_ret;exact ⟨aD HV.out.symm,Mv.refl _ _⟩
def rQ (v:bq):Int:=if v.kind=1 then 1 else v.len
theorem VK (v:bq) (w:World):Calls Tryz.prog 65 #[v.val] w fun e w'=>e = .returned (.int .i64 (rQ v))∧Grow w w':=by
 obtain ⟨s,k,n⟩:=v;by_cases hk:k=1
 · subst hk
   go_enter Tryz.func65,Tryz.ntmps65
   go_wp2_with fail;go_ret;exact ⟨rfl,(Mv.refl _ _).alloc _⟩
 · have e1:(k == 1)=false:=by simpa using hk
   have HF:=ł (show rQ ⟨s,k,n⟩=n from by simp [rQ,hk]);clear hk
   go_enter Tryz.func65,Tryz.ntmps65
   go_wp2_with fail;go_ret;exact ⟨gT HF.out.symm,(Mv.refl _ _).alloc _⟩
theorem VL (w:World):Calls Tryz.prog 64 #[.slice none 0 0] w fun e w'=>e = .returned (.slice none 0 0)∧Grow w w':=by
 have heq:(binOp .eql 84 (.slice none 0 0) (.slice none 0 0)).run Tryz.prog w = .ok (.bool true) w:=by
  have:=Lib.run_eql_slice_nil (P:=Tryz.prog) w 84 3 none 0 0 0 0 Tryz.underlying84
  simpa using this
 go_enter Tryz.func64,Tryz.ntmps64
 go_wp2_with fail;go_ret;exact ⟨rfl,Mv.refl _ _⟩
attribute [local go_sem ↓] mY
theorem Tryz.OV:(Tryz.prog.info? 3).map (fun i=>(i.zero,i.size,i.bytes))=some (some (.int .i64 0),1,8):=by kernel_rfl
theorem Tryz.Xq:(Tryz.prog.info? 84).map (fun i=>(i.zero,i.size,i.bytes))=some (some (.slice none 0 0),1,24):=by kernel_rfl
theorem Tryz.Xr:Elem Tryz.prog 83 84 1 24:=Elem.of Tryz.underlying83 Tryz.Xq rfl (by decide) (by decide)
def Cb (v:Value):List Value:=[v]
theorem z8 {w:World} {X:Nat} {a b c:Value} {t:TypeId} (h:w.heap[X]? = some (.cells #[a,b,c] t (0,0))) (p:Value) :
 (w.setCell ⟨X,0,none⟩ p).heap[X]? = some (.cells #[p,b,c] t (0,0))∧Mv (fun b=>b=X) w (w.setCell ⟨X,0,none⟩ p) :=
 ⟨by have h1:=block_setCell (p:=⟨X,0,none⟩) h rfl p;simpa using h1,(Mv.refl (fun b=>b=X) w).setCell (.inl rfl) _⟩
abbrev Jg (w:World) (base:Nat) (v:Value) (l:List Value):Prop:=w.ownsRow base 84 1 v l.length (flat Cb l)
structure lG (w:World) (X:Nat) (x:World) (cv:Value) (l:List Value):Prop where
 g:Grow w x
 blk:x.heap[X]? = some (.cells #[cv,.slice none 0 0,.slice none 0 0] 86 (0,0))
 res:x.heap[w.heap.size]? = some (.cells #[.slice none 0 0,.slice none 0 0,.slice none 0 0] 86 (0,0))
 row:Jg x w.heap.size cv l
 hX:w.heap.size<X
theorem lG.grow {w x y:World} {X:Nat} {cv:Value} {l:List Value} (h:lG w X x cv l) (hm:Grow x y):lG w X y cv l:=⟨gtr h.g hm,ai h.blk hm,ai h.res hm,bQ h.row hm (fun _ _ e=>e),h.hX⟩
theorem lG.drew {w x:World} {X:Nat} {cv:Value} {l:List Value} (h:lG w X x cv l):lG w X x.drew cv l:=⟨Mv.drew h.g,h.blk,h.res,h.row,h.hX⟩
def yK (w:World) (X:Nat) (y:World) (cv:Value):Prop:=Grow w y∧y.heap[X]? = some (.cells #[cv,.slice none 0 0,.slice none 0 0] 86 (0,0))∧y.heap[w.heap.size]? = some (.cells #[.slice none 0 0,.slice none 0 0,.slice none 0 0] 86 (0,0))∧w.heap.size<X
theorem lG.app {w x y:World} {X:Nat} {cv:Value} {l:List Value} (h:lG w X x cv l) (hm:Mv (fun b=>cv.ownBlock=some b) x y):yK w X y cv :=
 ⟨h.g.trans hm (fun b e => .inr (h.row.lt b e).1),by rw [hm.block _ (lt_of_block h.blk) (fun e=>eX h.row h.blk (by decide) e)];exact h.blk,by rw [hm.block _ (lt_of_block h.res) (fun e=>eX h.row h.res (by decide) e)];exact h.res,h.hX⟩
theorem yK.grow {w x y:World} {X:Nat} {cv:Value} (h:yK w X x cv) (hm:Grow x y):yK w X y cv:=⟨gtr h.1 hm,ai h.2.1 hm,ai h.2.2.1 hm,h.2.2.2⟩
theorem yK.store {w y:World} {X:Nat} {cv v:Value} {l:List Value} (h:yK w X y cv) (hr:Jg y w.heap.size v l):lG w X (y.setCell ⟨X,0,none⟩ v) v l:=by
 obtain ⟨h1,h2,h3,h4⟩:=h;obtain ⟨hb,hm⟩:=z8 h2 v;exact ⟨h1.trans hm (fun b e => .inr (by omega)),hb,by rw [hm.block _ (lt_of_block h3) (fun e=>by omega)];exact h3,bQ hr hm (fun g hg e=>by subst e;exact eX hr h2 (by decide) hg),h4⟩
def YN (X:Nat) (cv vv:Value) (fx:Int) (w:World) (cs:List Value):Nat→List Value→World→Prop
 | 0,[v],_=>v = .pointer (some ⟨X,0,none⟩)
 | 1,[v],_=>v=cv
 | 2,[v],_=>v=vv
 | 3,[v],_=>v = .int .i64 fx
 | 4,[v],_=>∃ a n c,v = .slice a n c
 | 5,[v],x=>∃ g u,v = .slice (some ⟨g,0,none⟩) 1 1∧u.oneCell'=true∧ax 1 Cb x (.slice (some ⟨g,0,none⟩) 1 1) [u]
 | 6,[v],x=>∃ a c u,v = .slice a (cs.length+1) c∧Jg x w.heap.size (.slice a (cs.length+1) c) (cs ++ [u])∧yK w X x cv
 | 7,[v],_=>v = .pointer (some ⟨X,0,none⟩)
 | 8,_,x=>∃ vY u,lG w X x vY (cs ++ [u])
 | _,_,_=>True
section
variable {X:Nat} {cv vv:Value} {fx:Int} {w x y:World} {cs:List Value}
theorem YN.grow (h:Grow x y):∀ j l,YN X cv vv fx w cs j l x→YN X cv vv fx w cs j l y:=by
 intro j l hy;unfold YN at hy ⊢;split <;> first
  | (obtain ⟨g,u,h1,h2,h3⟩:=hy;exact ⟨g,u,h1,h2,h3.later h⟩)
  | (obtain ⟨a,c,u,h1,h2,h3⟩:=hy;exact ⟨a,c,u,h1,bQ h2 h (fun _ _ e=>e),h3.grow h⟩)
  | (obtain ⟨a,c,h1⟩:=hy;exact ⟨a,c,h1.grow h⟩)
  | exact hy
  | trivial
theorem YN.keep:∀ j l,¬ j=4→¬ j=5→¬ j=6→¬ j=8→YN X cv vv fx w cs j l x→YN X cv vv fx w cs j l y:=by
 intro j l h4 h5 h6 h8 hy;unfold YN at hy ⊢;split <;> first
  | exact absurd rfl h4
  | exact absurd rfl h5
  | exact absurd rfl h6
  | exact absurd rfl h8
  | exact hy
  | trivial
end
def vN (l:List bq):Int:=if jH l then 0 else 3
theorem Xt (v:Value) (l:List bq) (w:World) (h:ax 3 bq.cells w v l) :
 Calls Tryz.prog 34 #[v,.slice none 0 0] w fun e w'=>∃ a1 n1 c1 a2 n2 c2 a3 n3 c3,e = .returned (.tuple #[.agg #[.slice a1 n1 c1,.slice a2 n2 c2,.slice a3 n3 c3],.int .i64 (vN l)])∧Grow w w':=by
 obtain ⟨va,vc,rfl,CX,hvl⟩:=h.form;have HR:=ł h;have wD:=ł (fun (y:World) (hy:Grow w y)=>VJ _ l y (h.later hy));have nT:=ł (heap_alloc_new w (.cells #[.slice none 0 0,.slice none 0 0,.slice none 0 0] 86));have bJ:=ł (show Grow w (w.alloc (.cells #[.slice none 0 0,.slice none 0 0,.slice none 0 0] 86)) from (Mv.refl _ w).alloc _);clear h;cases hval:jH l with
 | false =>
  have HE:=ł (show vN l=3 from by simp [vN,hval]);rw [hval] at wD;clear hval
  go_enter Tryz.func34,Tryz.ntmps34
  go_wp2_with fail;generalize w.alloc (.cells #[.slice none 0 0,.slice none 0 0,.slice none 0 0] 86)=w1 at *;refine (wD.out _ bJ.out).mono ?_;rintro e w2 ⟨rfl,hg⟩;have HG2:=ł (gtr bJ.out hg);have hb:=ai nT.out hg;obtain ⟨hs,hm⟩:=JI hb (.slice none 0 0) (.slice none 0 0) (.slice none 0 0);obtain ⟨r0,r1,r2⟩:=cK hb;have rt:=aJ hb;have HS:=ł hs;have aM:=ł (show Grow w _ from Mv.trans HG2.out hm (fun b e => .inr (by omega)));clear hb hs hm hg;go_wp2_with fail;obtain ⟨t0,t1,t2⟩:=cK HS.out;exact bodyPost_ret (v := .tuple #[.agg #[.slice none 0 0,.slice none 0 0,.slice none 0 0],.int .i64 3]) (by simp [results,Tryz.results34,go_sem,t0,t1,t2]) rfl ⟨_,_,_,_,_,_,_,_,_,by rw [HE.out],aM.out⟩
 | true =>
  have HE:=ł (show vN l=0 from by simp [vN,hval]);have acs:l.length≤32:=by simp [jH] at hval;exact hval.1
  have bT:=ł (show ∀ x∈l,0≤rQ x∧rQ x≤16 from fun x hx=>by
   simp only [jH,Bool.and_eq_true,List.all_eq_true] at hval;have:=hval.2 x hx;simp only [bq.okB,si] at this;unfold rQ;split
   · omega
   · split at this
     · simp at this;omega
     · split at this
       · simp at this;omega
       · cases this)
  rw [hval] at wD;clear hval
  go_enter Tryz.func34,Tryz.ntmps34
  go_wp2_with fail;generalize w.alloc (.cells #[.slice none 0 0,.slice none 0 0,.slice none 0 0] 86)=w1 at *;have hs1:=bJ.out.size;have hs0:=lt_of_block nT.out;refine (wD.out _ bJ.out).mono ?_;rintro e w2 ⟨rfl,hg⟩;have HG2:=ł (gtr bJ.out hg);have HR2:=ł (ai nT.out hg);have hs2:=hg.size;clear hg;go_wp2_with fail;refine (VL _).mono ?_;rintro e w3 ⟨rfl,hg⟩;have hs3:=hg.size;have qX:=ł (show lG w w3.heap.size (w3.alloc (.cells #[.slice none 0 0,.slice none 0 0,.slice none 0 0] 86)) (.slice none 0 0) [] from ⟨(gtr HG2.out hg).alloc _,heap_alloc_new w3 _,aT (ai HR2.out hg) _,World.ownsRow_nil _ _ _ _,by omega⟩);clear hg;go_wp2_with fail;generalize w3.alloc (.cells #[.slice none 0 0,.slice none 0 0,.slice none 0 0] 86)=w4 at *;generalize w3.heap.size=X at *;clear hs0 hs1 hs2 hs3 wD nT bJ HG2 HR2
  go_loopw [22] (fun t wr=>∃ (k:Nat) (cv:Value) (cs:List Value),t = .int .i64 k∧k≤l.length∧cs.length=k∧lG w X wr cv cs) (fun t _=>l.length - (intOf t).toNat)
  case atStart=>exact ⟨0,_,[],rfl,Nat.zero_le _,rfl,qX.out⟩
  obtain ⟨k,cv,cs,rfl,hk,hcs,hst⟩:=hrel;have HCS:=ł hcs;obtain ⟨na,nc,rA⟩:=gz hst.row;subst rA;have mI:=ł hst;have hcl:cs.length≤32:=by omega
  clear hst hcs qX;by_cases hlt:k<l.length
  · obtain ⟨b,off,cap',e,_,hcc⟩:=(HR.out.later mI.out.g).at hlt;simp only [Value.slice.injEq,true_and] at e;obtain ⟨rfl,rfl⟩:=e;have c0:=hcc 0 _ rfl;have c1:=hcc 1 _ rfl;have c2:=hcc 2 _ rfl;have lK:=ł (bT.out l[k] (List.getElem_mem hlt));generalize l[k]=x at *;obtain ⟨jX,vk,vn⟩:=x;simp only [Nat.add_zero] at c0 c1 c2;have hbl:b<wr.heap.size:=World.block_lt_of_cell? wr _ c0;have aU:=ł (mI.out.grow ((Mv.refl _ wr).alloc (.cells #[.string jX,.int .u8 vk,.int .i64 vn] 50)));have qi:=ł (heap_alloc_new wr (.cells #[.string jX,.int .u8 vk,.int .i64 vn] 50));have hXl:X≠wr.heap.size:=fun e=>by have:=lt_of_block mI.out.blk;omega
    have xM:=ł (fun g hg=>(mI.out.row.lt g hg).2);have yE:wr.heap.size<(wr.alloc (.cells #[.string jX,.int .u8 vk,.int .i64 vn] 50)).heap.size:=by simp
    clear hcc;go_upto_region 9 with fail;clear c0 c1 c2 hbl;generalize wr.alloc (.cells #[.string jX,.int .u8 vk,.int .i64 vn] 50)=w5 at *;have HST:=aU;have lD:=ł (fun (x:World) (hx:Mv (fun b=>b=X∨Value.ownBlock (.slice na cs.length nc)=some b) w5.drew x)=>(show x.heap[wr.heap.size]? = _ from (hx.block wr.heap.size yE (fun e=>by rcases e with e | e;exact hXl e.symm;have:=xM.out _ e;omega)).trans qi.out));refine qw (by kernel_rfl) 36 [some 26,some 27,some 28,some 29,some 30,some 31,some 32,some 33,none] [[],[0],[],[2],[3,3],[4],[1,5,3],[0,1,2,3,4,5,6],[7,6,6,0,1,2,3,4,5,6]] [[],[0],[],[2],[3],[4],[1,5],[],[7,6]] [[0],[1],[2],[3],[4],[5],[6],[7],[8]] [[],[],[],[],[6],[6],[8],[],[]] rfl (by kernel_rfl) (Mv (fun b=>b=X∨Value.ownBlock (.slice na cs.length nc)=some b)) (fun _=>Mv.refl _ _) (fun x y z h1 h2=>h1.trans h2 (fun _ e => .inl e)) (YN X (.slice na cs.length nc) (.agg #[.string jX,.int .u8 vk,.int .i64 vn]) (rQ ⟨jX,vk,vn⟩) w cs) (fun _ x=>lG w X x (.slice na cs.length nc) cs) [[6]] ?z0 ?steps ?done
    case z0=>intro z hz;exact HST.out.drew
    case steps =>
     refine ⟨?s0,?s1,?s2,?s3,?s4,?s5,?s6,?s7,?s8,trivial⟩
     case s0 =>
      intro vs x hx hY hZ;clear hY hZ;simp only [zR];go_simp;exact ⟨Mv.refl _ _,by intros;assumption,rfl,by intros;assumption⟩
     case s1 =>
      intro vs x hx hY hZ;have h0:vs 0 = .pointer (some ⟨X,0,none⟩):=hY 0 (by simp) (by simp);obtain ⟨k0,k1,k2⟩:=cK (hZ 0 (by simp) (by simp)).blk;clear hY hZ;simp only [zR,h0];go_simp;exact ⟨Mv.refl _ _,by intros;assumption,rfl,by intros;assumption⟩
     case s2 =>
      intro vs x hx hY hZ;obtain ⟨k0,k1,k2⟩:=cK (lD.out x hx);clear hY hZ;simp only [zR];go_simp;exact ⟨Mv.refl _ _,by intros;assumption,rfl,by intros;assumption⟩
     case s3 =>
      intro vs x hx hY hZ;have h2:vs 2 = .agg #[.string jX,.int .u8 vk,.int .i64 vn]:=hY 2 (by simp) (by simp);have HC:=ł (VK ⟨jX,vk,vn⟩ x);clear hY hZ;simp only [zR,h2];go_simp;refine HC.out.mono ?_;rintro e y ⟨rfl,hgr⟩;exact ⟨_,rfl,hgr.mono (fun _ e=>e.elim),(by first | exact fun h=>lG.grow h hgr | (intros;exact lG.grow (by assumption) hgr)),rfl,by intros;exact YN.grow hgr _ _ (by assumption)⟩
     case s4 =>
      intro vs x hx hY hZ;have h3:vs 3 = .int .i64 (rQ ⟨jX,vk,vn⟩):=hY 3 (by simp) (by simp);obtain ⟨i0,hi,hz0,hz1,hz2⟩:=info_parts Tryz.OV;have hmk:=run_make (P:=Tryz.prog) x 84 3 i0 _ Tryz.underlying84 hi hz0 .i64 .i64 (rQ ⟨jX,vk,vn⟩) (rQ ⟨jX,vk,vn⟩) lK.out.1 (Int.le_refl _) (by rw [hz2];have:=lK.out.2;omega) (by have:=lK.out.2;omega);clear hY hZ hi hz0 hz1 hz2;generalize rQ ⟨jX,vk,vn⟩=fx at *;simp only [zR,h3];go_simp;exact ⟨(Mv.refl _ _).alloc _,(by first | exact fun h=>lG.grow h ((Mv.refl _ _).alloc _) | (intros;exact lG.grow (by assumption) ((Mv.refl _ _).alloc _))),⟨_,_,_,rfl⟩,by intros;exact YN.grow ((Mv.refl _ _).alloc _) _ _ (by assumption)⟩
     case s5 =>
      intro vs x hx hY hZ;obtain ⟨u4,v4,c4,(h4:vs 4=_)⟩:=hY 4 (by simp) (by simp);clear hY hZ;simp only [zR,h4];go_simp;exact ⟨(Mv.refl _ _).alloc _,(by first | exact fun h=>lG.grow h ((Mv.refl _ _).alloc _) | (intros;exact lG.grow (by assumption) ((Mv.refl _ _).alloc _))),⟨x.heap.size,.slice u4 v4 c4,rfl,rfl,ax.bH (n:=1) (f:=Cb) (l:=[.slice u4 v4 c4]) (fun _=>rfl) (heap_alloc_new x _) rfl (by simp)⟩,by intros;exact YN.grow ((Mv.refl _ _).alloc _) _ _ (by assumption)⟩
     case s6 =>
      intro vs x hx hY hZ;have h1:vs 1 = .slice na cs.length nc:=hY 1 (by simp) (by simp);obtain ⟨g5,u5,(h5:vs 5=_),ho,hrow⟩:=hY 5 (by simp) (by simp);have hst:=hZ 0 (by simp) (by simp);obtain ⟨a',c',w2,⟨hok,hv,hw⟩,hrow2,bE,hown2⟩:=oW Tryz.Xr (f:=Cb) (fun _=>rfl) _ _ cs [u5] _ x hst.row hrow (by intro z hz;simp at hz;subst hz;intro u hu;simp [Cb] at hu;subst hu;exact ho) hst.g.size (by simp;omega);have HJ:=ł (hst.app bE);have HR2:=ł hrow2;have dU:=ł bE;clear hY hZ hst hrow hrow2 bE hown2;simp only [List.length_cons,List.length_nil,Nat.zero_add] at hok hv hw;simp only [zR,h1,h5];go_simp;exact ⟨dU.out.mono (fun _ e => .inl (.inr e)),⟨a',c',u5,rfl,HR2.out,HJ.out⟩,fun j l=>by intros;refine YN.keep j l ?_ ?_ ?_ ?_ (by assumption) <;> (intro e;subst e;first | contradiction | simp_all)⟩
     case s7 =>
      intro vs x hx hY hZ;clear hY hZ;simp only [zR];go_simp;exact ⟨Mv.refl _ _,rfl,by intros;assumption⟩
     case s8 =>
      intro vs x hx hY hZ;have h7:vs 7 = .pointer (some ⟨X,0,none⟩):=hY 7 (by simp) (by simp);obtain ⟨a',c',u6,(h6:vs 6=_),hrow,hj⟩:=hY 6 (by simp) (by simp);have HS:=ł (hj.store hrow);obtain ⟨k0,k1,k2⟩:=cK hj.2.1;have zt:=aJ hj.2.1;have dU:=ł (z8 hj.2.1 (vs 6));rw [h6] at dU;clear hY hZ hrow hj;simp only [zR,h7,h6];go_simp;exact ⟨dU.out.2.mono (fun _ e => .inl (.inl e)),⟨_,u6,HS.out⟩,fun j l=>by intros;refine YN.keep j l ?_ ?_ ?_ ?_ (by assumption) <;> (intro e;subst e;first | contradiction | simp_all)⟩
    case done =>
    intro vs wy hxy hY _;obtain ⟨vY,u6,hst'⟩:=hY 8 (by decide) rfl;simp only [List.length_cons,List.length_nil,Nat.zero_add,Nat.reduceAdd];rw [show List.range 9=[0,1,2,3,4,5,6,7,8] from rfl];simp only [zR];clear hY;have nJ:=ł hst';clear hst' hxy lD HST aU qi xM;go_wp2_with fail
    go_roundw
    case rel=>exact ⟨k+1,_,cs ++ [u6],by go_num,by omega,by simp [HCS.out],nJ.out⟩
    case measure=>(simp [intOf] <;> omega)
  · obtain ⟨k0,k1,k2⟩:=cK mI.out.blk;obtain ⟨m0,m1,m2⟩:=cK mI.out.res;have hl1:=lt_of_block mI.out.blk;have hl2:=lt_of_block mI.out.res;have zt:=aJ mI.out.res;obtain ⟨hs,hm⟩:=JI mI.out.res (.slice na cs.length nc) (.slice none 0 0) (.slice none 0 0);have HS:=ł hs;have aM:=ł (show Grow w _ from Mv.trans mI.out.g hm (fun b e => .inr (by omega)));clear hs hm mI;go_wp2_with fail;obtain ⟨t0,t1,t2⟩:=cK HS.out;exact bodyPost_ret (v := .tuple #[.agg #[.slice na cs.length nc,.slice none 0 0,.slice none 0 0],.int .i64 0]) (by simp [results,Tryz.results34,go_sem,t0,t1,t2]) rfl ⟨_,_,_,_,_,_,_,_,_,by rw [HE.out],aM.out⟩
def tZ:List ByteArray→List bq→Bool
 | _,[]=>false
 | seen,v :: r=>seen.any (fun s=>s == v.name) || tZ (seen ++ [v.name]) r
def iE (l:List bq):Int:=if jH l then (if tZ [] l then 22 else 0) else 3
def YO (w:World) (l:List bq) (e:Ending) (w':World):Prop:=∃ sv,e = .returned (.tuple #[.agg #[sv,.int .i64 (if iE l=0 then frameC l else gU).cells,.int .i64 (if iE l=0 then frameC l else gU).stacks],.int .i64 (iE l)])∧fF w' sv (if iE l=0 then frameC l else gU)∧Grow w w'
def E5:Value := .agg #[.int .u8 57,.int .i64 0,.string ⟨#[]⟩,.slice none 0 0]
def uq:Prop:=∀ (v:Value) (l:List bq) (w:World),ax 3 bq.cells w v l→Calls Tryz.prog 14 #[v,E5] w (YO w l)
def FP (w:World) (n:Int) (e:Ending) (w':World):Prop:=e = .returned (.int .i64 n)∧Grow w w'
def qP (f:az) (x:Tree × bq):Bool := !(x.2.kind == 2) || ((au f x.1.name 2).getD noSlot).len == x.2.len
def vE (f:az) (procs:List cB) (s:ByteArray) (l:List Tree):Int :=
 let ps:=((rU procs s).map cB.params).getD []
 if l.length≠ps.length then 7 else if (l.zip ps).all (qP f) then iE ps else 7
theorem Bc (procs:List aj) (s:ByteArray):((rU (procs.map aj.d) s).map cB.params).getD []=((eP procs s).getD fZ).params:=by
 rw [Od];cases eP procs s <;> rfl
theorem Me {α β:Type} (a:List α) (b:List β) (i:Nat) (h:a.length=b.length) (hi:i<a.length):(a.zip b).take (i+1)=(a.zip b).take i ++ [(a[i],b[i]'(by omega))]:=by
 rw [List.take_succ_eq_append_getElem (by simp;omega)];simp
theorem WO (hof:uq) (sv pv:Value) (f:az) (procs:List aj) (k n:Int) (s:ByteArray) (kv:Value) (l:List ae) (w:World) (hf:fF w sv f) (hp:lQ w pv procs) (hx:aV w (.mk k n s kv l)) :
 Calls Tryz.prog 77 #[.agg #[sv,.int .i64 f.cells,.int .i64 f.stacks,pv],ae.val (.mk k n s kv l)] w (FP w (vE f (procs.map aj.d) s (ae.ts l))):=by
 obtain ⟨fa,fc,rfl,hfc,hfl⟩:=hf.row.form;obtain ⟨pa,pc,rfl,hpc,hpl⟩:=hp.row.form;obtain ⟨ka,kc,rfl,hkc,hkl⟩:=hx.form;have SV:=ł (show vE f (procs.map aj.d) s (ae.ts l)=if l.length≠((eP procs s).getD fZ).params.length then 7 else if ((ae.ts l).zip ((eP procs s).getD fZ).params).all (qP f) then iE ((eP procs s).getD fZ).params else 7 from by
  unfold vE;rw [Bc,ae.cZ])
 have sO:=ł (fun (y:World) (hy:Grow w y)=>Ii (.slice pa procs.length pc) procs s y (hp.later hy));have vO:=He hp s;generalize (eP procs s).getD fZ=p at *;generalize (eP procs s).isSome=found at *;obtain ⟨ps,params,qv,body⟩:=p;obtain ⟨qa,qc,rfl,hqc,pV⟩:=vO.form;have fK:=ł vO.params;obtain ⟨bk,bn,bs,Gc,bl⟩:=body;obtain ⟨ba,bc,rfl,-,-⟩:=vO.body.form;simp only [aj.val] at sO;have HF:=ł hf;have mU:=ł hx;obtain ⟨uK,aL,HG2⟩:=a2 w (.cells #[.slice fa f.slots.length fc,.int .i64 f.cells,.int .i64 f.stacks,.slice pa procs.length pc] 62) (.cells #[.int .u8 k,.int .i64 n,.string s,.slice ka l.length kc] 24);clear hf hp hx vO;simp only [ae.val]
 go_enter Tryz.func77,Tryz.ntmps77
 go_wp2_with fail;generalize ((w.alloc (.cells #[.slice fa f.slots.length fc,.int .i64 f.cells,.int .i64 f.stacks,.slice pa procs.length pc] 62)).alloc (.cells #[.int .u8 k,.int .i64 n,.string s,.slice ka l.length kc] 24))=w2 at *;refine (sO.out _ HG2.out).mono ?_;rintro e w3 ⟨rfl,hg⟩;have aG:=ł (gtr HG2.out hg);have hub:=ai uK.out hg;have hnb:=ai aL.out hg;have hpb:=heap_alloc_new w3 (.cells #[.string ps,.slice qa params.length qc,.int .u8 bk,.int .i64 bn,.string bs,.slice ba bl.length bc] 60);have HU4:=ł (aT hub (.cells #[.string ps,.slice qa params.length qc,.int .u8 bk,.int .i64 bn,.string bs,.slice ba bl.length bc] 60));have uI:=ł (aT hnb (.cells #[.string ps,.slice qa params.length qc,.int .u8 bk,.int .i64 bn,.string bs,.slice ba bl.length bc] 60));have Dl:=ł hpb;have aN:=ł (gtr aG.out ((Mv.refl _ w3).alloc (.cells #[.string ps,.slice qa params.length qc,.int .u8 bk,.int .i64 bn,.string bs,.slice ba bl.length bc] 60)));obtain ⟨⟨n0,n1⟩,n2,n3⟩:=aF hnb;have hln:=lt_of_block hnb;clear hub hnb hpb hg uK aL sO;by_cases hll:l.length=params.length
 · have hne:((l.length:Int) != params.length)=false:=by simp [hll]
   have Qv:=ł (show vE f (procs.map aj.d) s (ae.ts l)=if ((ae.ts l).zip params).all (qP f) then iE params else 7 from by rw [SV.out,if_neg (by simp;exact hll)]);have SX:=ł hll;clear hll;go_wp2_with fail;generalize w3.alloc (.cells #[.string ps,.slice qa params.length qc,.int .u8 bk,.int .i64 bn,.string bs,.slice ba bl.length bc] 60)=w4 at *;generalize w3.heap.size=PX at *;clear n0 n1 n2 n3 hln hne;have hpx:=lt_of_block Dl.out
   go_loopw [31] (fun t wr=>∃ i:Nat,t = .int .i64 i∧i≤params.length∧Grow w4 wr∧(((ae.ts l).zip params).take i).all (qP f)=true) (fun t _=>params.length - (intOf t).toNat)
   case atStart=>exact ⟨0,rfl,Nat.zero_le _,Mv.refl _ _,rfl⟩
   obtain ⟨i,rfl,hi,hg,hall⟩:=hrel;have HG:=ł hg;have HA:=ł hall;clear hg hall;by_cases hlt:i<params.length
   · have hil:i<l.length:=by have:=SX.out;omega
     obtain ⟨b,off,cap',e,_,hcc⟩:=(fK.out.later (gtr aN.out HG.out)).at hlt;simp only [Value.slice.injEq,true_and] at e;obtain ⟨rfl,rfl⟩:=e;have c0:=hcc 0 _ rfl;have c1:=hcc 1 _ rfl;have c2:=hcc 2 _ rfl;obtain ⟨kb,ko,yG,cz,-,-⟩:=mU.out.row.2.2.2.1.at (show 0<l.length by omega);simp only [Value.slice.injEq,true_and] at cz;obtain ⟨rfl,rfl⟩:=cz;have iO:=eY mU.out i hil;have HT:=ł (show (((ae.ts l).zip params).take (i+1)).all (qP f)=qP f (l[i].t,params[i]) from by
      rw [Me (ae.ts l) params i (by rw [ae.cZ];exact SX.out) (by rw [ae.cZ];exact hil),List.all_append,HA.out,ae.gK l i hil];simp)
     have Dm:=ł (fun (h:qP f (l[i].t,params[i])=false)=>show ((ae.ts l).zip params).all (qP f)=false from by
      apply Bool.eq_false_iff.2;intro ha;have hz:i<((ae.ts l).zip params).length:=by simp [ae.cZ];omega
      have:=List.all_eq_true.1 ha _ (List.getElem_mem hz);rw [List.getElem_zip,ae.gK l i hil,h] at this;cases this)
     generalize l[i]=y at *;generalize params[i]=v at *;obtain ⟨yk,yn,ys,yv,yl⟩:=y;obtain ⟨jX,vk,vn⟩:=v;simp only [Nat.add_zero] at c0 c1 c2;have SY:=ł (show qP f (ae.t (.mk yk yn ys yv yl),⟨jX,vk,vn⟩)=(!(vk == 2) || ((au f ys 2).getD noSlot).len == vn) from rfl);have hbl:b<wr.heap.size:=World.block_lt_of_cell? wr _ c0;have qi:=ł (heap_alloc_new wr (.cells #[.string jX,.int .u8 vk,.int .i64 vn] 50));have aS:=ł (HG.out.alloc (.cells #[.string jX,.int .u8 vk,.int .i64 vn] 50));clear hcc;by_cases hk2:vk=2
     · subst hk2;have tu:=ł iO;clear iO;go_upto_region 8 with fail;clear c0 c1 c2 hbl;generalize wr.alloc (.cells #[.string jX,.int .u8 2,.int .i64 vn] 50)=w5 at *;have bK:=ł (fun (y:World) (hy:Grow w5 y)=>And.intro (ai HU4.out (gtr aS.out hy)) (And.intro (ai uI.out (gtr aS.out hy)) (And.intro (tu.out.later (gtr aN.out (gtr aS.out hy))) (HF.out.later (gtr aN.out (gtr aS.out hy))))));refine wg 65 [some 40,some 41,some 42,some 43,some 44,some 45,some 46,some 47,some 48,some 39,some 49,some 50,some 9,none,some 10] [[],[0],[],[2],[],[3,4],[5],[6],[1,7],[8],[9],[9],[],[12,10],[11]] [] [.c (.pointer (some ⟨w.heap.size,0,none⟩)),.c (.agg #[.slice fa f.slots.length fc,.int .i64 f.cells,.int .i64 f.stacks]),.c (.pointer (some ⟨(w.heap.size+1),3,none⟩)),.c (.slice (some ⟨kb,ko,none⟩) l.length kc),.c (.int .i64 i),.c (.pointer (some ⟨kb,ko+i * 4,none⟩)),.c (.pointer (some ⟨kb,ko+i * 4+2,none⟩)),.c (.string ys),.c (.tuple #[((au f ys 2).getD noSlot).val,.bool (au f ys 2).isSome]),.c (.tuple #[((au f ys 2).getD noSlot).val,.bool (au f ys 2).isSome]),.c (((au f ys 2).getD noSlot).val),.c (.bool (au f ys 2).isSome),.al 13 10 #[.string ⟨#[]⟩,.int .u8 0,.int .i64 0,.int .i64 0] 95,.st 12,.c (.bool (au f ys 2).isSome)] trivial (dJ rfl) ?steps ?done
       case steps =>
        refine ⟨?s0,?s1,?s2,?s3,?s4,?s5,?s6,?s7,?s8,?s9,?s10,?s11,?s12,?s13,?s14,trivial⟩
        case s0 | s2 | s4 | s6 | s9 | s10 | s11 | s14 =>
         refine oo (fun vs x hP => ?_);simp only [zS];go_simp;exact gc
        case s1 =>
         refine ok bK (fun vs x hG HX hP => ?_);obtain ⟨⟨u0,u1⟩,u2,u3⟩:=aF HX.out.1;simp only [zS];go_simp;exact gc
        case s3 =>
         refine ok bK (fun vs x hG HX hP => ?_);obtain ⟨⟨n0,n1⟩,n2,n3⟩:=aF HX.out.2.1;simp only [zS];go_simp;exact gc
        case s5 =>
         refine ok bK (fun vs x hG HX hP => ?_);have hbd:i<l.length:=hil;simp only [zS];go_simp;exact gc
        case s7 =>
         refine ok bK (fun vs x hG HX hP => ?_);have d2:=HX.out.2.2.1.four.2.1;simp only [zS];go_simp;exact gc
        case s8 =>
         refine ok bK (fun vs x hG HX hP => ?_);have HC:=ł (nX (.slice fa f.slots.length fc) f ys 2 x HX.out.2.2.2);simp only [zS];go_simp;refine (HC.out).mono ?_;rintro e y ⟨rfl,hg⟩;exact ⟨_,rfl,bz hg rfl⟩
        case s12 =>
         refine oz (fun vs x => ?_);simp only [zS];go_simp;exact ⟨rfl,rfl⟩
        case s13 =>
         refine os (fun vs x g hg hb hv => ?_);have h10:vs 10=_:=hv;obtain ⟨c0,c1,c2,c3⟩:=dm hb;have zt:=aJ hb;simp only [zS,hg,h10];go_simp;exact qU hb _ _ _ _
       case done =>
       intro vs w6 hE;have hG:=hE.grow;obtain ⟨g12,a12,l12,m12,b12⟩:=hE.box 12;simp only [zS] at b12;simp only [zS,Nat.reduceAdd,a12];have xL:=ł b12;generalize hsl:((au f ys 2).getD noSlot)=sl at *;obtain ⟨sl0,sl1,sl2,sl3⟩:=sl;simp only [bI] at xL;have kG:=ł (show qP f (ae.t (.mk yk yn ys yv yl),⟨jX,2,vn⟩)=(sl2 == vn) from by rw [SY.out];rfl);obtain ⟨z0,z1,z2,z3⟩:=dm xL.out;obtain ⟨v0,v1,v2⟩:=cK (ai qi.out hG);have hlz:=lt_of_block xL.out;have hlv:=lt_of_block (ai qi.out hG);have bP:=ł (gtr aS.out hG);clear hE hG b12 hsl bK;by_cases hln:sl2=vn
       · have hnn:(sl2 != vn)=false:=by simp [hln]
         have HX:=ł (HT.out.trans (show qP f (ae.t (.mk yk yn ys yv yl),⟨jX,2,vn⟩)=true from by rw [kG.out];simp [hln]));clear hln Dm HT;go_wp2_with fail
         go_roundw
         case rel=>exact ⟨i+1,by go_num,by omega,bP.out,HX.out⟩
         case measure=>(simp [intOf] <;> omega)
       · have hnn:(sl2 != vn)=true:=by simp [hln]
         have HX:=ł (show vE f (procs.map aj.d) s (ae.ts l)=7 from by rw [Qv.out,Dm.out (by rw [kG.out];simp [hln])];simp);clear hln Dm HT;go_wp2_with fail;go_ret;exact ⟨gT HX.out.symm,gtr aN.out bP.out⟩
     · have hnn:(vk != 2)=true:=by simp [hk2]
       have HX:=ł (HT.out.trans (show qP f (ae.t (.mk yk yn ys yv yl),⟨jX,vk,vn⟩)=true from by rw [SY.out];simp [hk2]));clear hk2 Dm HT;go_wp2_with fail
       go_roundw
       case rel=>exact ⟨i+1,by go_num,by omega,aS.out,HX.out⟩
       case measure=>(simp [intOf] <;> omega)
   · have HX:=ł (show vE f (procs.map aj.d) s (ae.ts l)=iE params from by
      rw [Qv.out];have:((ae.ts l).zip params).take i=(ae.ts l).zip params:=List.take_of_length_le (by simp [ae.cZ];omega);rw [← this,HA.out];rfl)
     have KY:=ai Dl.out HG.out;obtain ⟨⟨p0,p1,p2⟩,p3,p4,p5⟩:=wO KY;have hlp:=lt_of_block KY;have tC:=ł (hof (.slice qa params.length qc) params wr (fK.out.later (gtr aN.out HG.out)));have S9:=gtr aN.out HG.out;have aQ:=ł S9;clear KY S9;unfold E5 at tC;go_wp2_with fail;refine tC.out.mono ?_;rintro e w7 ⟨sv7,he7,Qw,AV⟩;obtain ⟨a7,c7,hs7,-,-⟩:=Qw.row.form;subst hs7;subst he7;have tF:=ł (gtr aQ.out AV);clear AV Qw tC p0 p1 p2 p3 p4 p5 hlp;generalize iE params=oe at *;generalize (if oe=0 then frameC params else gU)=fo at *;go_wp2_with fail;go_ret;exact ⟨gT HX.out.symm,tF.out.alloc _⟩
 · have hne:((l.length:Int) != params.length)=true:=by simp;omega
   have HX:=ł (SV.out.trans (if_pos hll));clear hll;go_wp2_with fail;go_ret;exact ⟨gT HX.out.symm,aN.out⟩
end Go.Proofs.YtnobahchcongnaaGreatDoor
