import Derived.Test.YtnobahchcongnaaGreatDoorR24
set_option linter.unusedSimpArgs false
set_option linter.unusedVariables false
set_option maxRecDepth 100000
set_option maxHeartbeats 25600000
namespace Go.Proofs.YtnobahchcongnaaGreatDoor
open Go.RowKit Go.Instr
def ui (k n:Int):Bool:=if k=1\/k=3 then n == 0 else if k=2 then decide (1<=n) && decide (n<=16)else false
def bu.okB (v:bu):Bool:=ui v.kind v.len
def jY (l:List bu):Bool:=decide (l.length<=32) && l.all bu.okB
theorem Xd (l:List bu) (k:Nat) (h:k<l.length):(l.take (k+1)).all bu.okB=((l.take k).all bu.okB && l[k].okB):=by
 rw[List.take_succ_eq_append_getElem h,List.all_append];simp
theorem Yz (l:List bu) (k:Nat) (h:k<l.length) (hf:l[k].okB=false):l.all bu.okB=false:=by
 apply Bool.eq_false_iff.2;intro ha;have:=List.all_eq_true.1 ha l[k] (List.getElem_mem h);rw[hf]at this;cases this
theorem YB (v:Value) (l:List bu) (w:World) (h:az 3 bu.cells w v l):Calls Tryz.prog 63 #[v] w (jy w (jY l)):=by
 obtain⟨va,vc,rfl,Fa,hvl⟩:=h.form;have HR:=ł h;clear h;by_cases h32:l.length<=32
 · have HV:=ł (show jY l=l.all bu.okB from by simp[jY,h32])
   go_enter Tryz.func63,Tryz.ntmps63
   go_wp2_with fail
   go_loopw [10] (λt wr=>∃ k:Nat,t = .int .i64 k/\k<=l.length/\Grow w wr/\(l.take k).all bu.okB=true) (λt _=>l.length - (intOf t).toNat)
   case atStart=>exact⟨0,rfl,Nat.zero_le _,Mv.refl _ _,rfl⟩
   obtain⟨k,rfl,hk,hg,hall⟩:=hrel;have HG:=ł hg;have HA:=ł hall;clear hall hg;by_cases hlt:k<l.length
   · obtain⟨b,off,cap',e,_,hcc⟩:=(HR.out.later HG.out).at hlt;simp only[Value.slice.injEq,true_and]at e;obtain⟨rfl,rfl⟩:=e;have c0:=hcc 0 _ rfl;have c1:=hcc 1 _ rfl;have c2:=hcc 2 _ rfl;have HT:=ł (λ(h:l[k].okB=true)=>show(l.take (k+1)).all bu.okB=true from by rw[Xd l k hlt,HA.out,h];rfl);have HF:=ł (λ(h:l[k].okB=false)=>show jY l=false from by rw[HV.out];exact Yz l k hlt h);have sV:=ł (show l[k].okB=ui l[k].kind l[k].len from rfl);generalize l[k]=x at *;obtain⟨xs,xk,xn⟩:=x;simp only[Nat.add_zero]at c0 c1 c2 sV;have hbl:b<wr.heap.size:=World.block_lt_of_cell? wr _ c0;clear hcc;have hcs:xk=1\/xk=3\/xk=2\/(xk≠1/\xk≠3/\xk≠2):=by omega
     rcases hcs with rfl|rfl|rfl|⟨n1,n3,n2⟩
     · by_cases hn:xn=0
       · subst hn;have HX:=ł (HT.out (by rw[sV.out];rfl));clear HT HF;go_wp2_with fail
         go_roundw
         case rel=>exact⟨k+1,by go_num,by omega,HG.out.alloc _,HX.out⟩
         case measure=>(simp[intOf] <;> omega)
       · have HX:=ł (HF.out (by rw[sV.out];simp[ui,hn]));have hb:(xn != 0)=true:=by simpa using hn
         clear HT HF hn;go_wp2_with fail;go_ret;exact⟨aK HX.out.symm,HG.out.alloc _⟩
     · by_cases hn:xn=0
       · subst hn;have HX:=ł (HT.out (by rw[sV.out];rfl));clear HT HF;go_wp2_with fail
         go_roundw
         case rel=>exact⟨k+1,by go_num,by omega,HG.out.alloc _,HX.out⟩
         case measure=>(simp[intOf] <;> omega)
       · have HX:=ł (HF.out (by rw[sV.out];simp[ui,hn]));have hb:(xn != 0)=true:=by simpa using hn
         clear HT HF hn;go_wp2_with fail;go_ret;exact⟨aK HX.out.symm,HG.out.alloc _⟩
     · by_cases h1:1<=xn
       · by_cases h16:xn<=16
         · have HX:=ł (HT.out (by rw[sV.out];simp[ui,h1,h16]));have hd1:decide (xn<1)=false:=by simp;omega
           have hd2:decide (16<xn)=false:=by simp;omega
           clear HT HF;go_wp2_with fail
           go_roundw
           case rel=>exact⟨k+1,by go_num,by omega,HG.out.alloc _,HX.out⟩
           case measure=>(simp[intOf] <;> omega)
         · have HX:=ł (HF.out (by rw[sV.out];simp[ui];omega));have hd1:decide (xn<1)=false:=by simp;omega
           have hd2:decide (16<xn)=true:=by simp;omega
           clear HT HF;go_wp2_with fail;go_ret;exact⟨aK HX.out.symm,HG.out.alloc _⟩
       · have HX:=ł (HF.out (by rw[sV.out];simp[ui];omega));have hd1:decide (xn<1)=true:=by simp;omega
         clear HT HF;go_wp2_with fail;go_ret;exact⟨aK HX.out.symm,HG.out.alloc _⟩
     · have HX:=ł (HF.out (by rw[sV.out];simp[ui,n1,n2,n3]));have e1:(xk == 1)=false:=by simpa using n1
       have e2:(xk == 2)=false:=by simpa using n2
       have e3:(xk == 3)=false:=by simpa using n3
       clear HT HF n1 n2 n3;go_wp2_with fail;go_ret;exact⟨aK HX.out.symm,HG.out.alloc _⟩
   · have HX:=ł (show jY l=true from by rw[HV.out,← HA.out,show k=l.length from by omega,List.take_length]);go_wp2_with fail;go_ret;exact⟨aK HX.out.symm,HG.out⟩
 · have HV:=ł (show jY l=false from by simp[jY,h32]);have hd:decide (32<(l.length:Int))=true:=by simp;omega
   go_enter Tryz.func63,Tryz.ntmps63
   go_wp2_with fail;go_ret;exact⟨aK HV.out.symm,Mv.refl _ _⟩
def tN (v:bu):Int:=if v.kind=1 then 1 else v.len
theorem YD (v:bu) (w:World):Calls Tryz.prog 65 #[v.val] w λe w'=>e = .returned (.int .i64 (tN v))/\Grow w w':=by
 obtain⟨s,k,n⟩:=v;by_cases hk:k=1
 · subst hk
   go_enter Tryz.func65,Tryz.ntmps65
   go_wp2_with fail;go_ret;exact⟨rfl,(Mv.refl _ _).alloc _⟩
 · have e1:(k == 1)=false:=by simpa using hk
   have HF:=ł (show tN ⟨s,k,n⟩=n from by simp[tN,hk]);clear hk
   go_enter Tryz.func65,Tryz.ntmps65
   go_wp2_with fail;go_ret;exact⟨iF HF.out.symm,(Mv.refl _ _).alloc _⟩
theorem YE (w:World):Calls Tryz.prog 64 #[.slice none 0 0] w λe w'=>e = .returned (.slice none 0 0)/\Grow w w':=by
 have heq:(binOp .eql 84 (.slice none 0 0) (.slice none 0 0)).run Tryz.prog w = .ok (.bool true) w:=by
  have:=Lib.run_eql_slice_nil (P:=Tryz.prog) w 84 3 none 0 0 0 0 Tryz.underlying84
  simpa using this
 go_enter Tryz.func64,Tryz.ntmps64
 go_wp2_with fail;go_ret;exact⟨rfl,Mv.refl _ _⟩
attribute [local go_sem ↓] ni
theorem Tryz.RI:(Tryz.prog.info? 3).map (λi=>(i.zero,i.size,i.bytes))=some (some (.int .i64 0),1,8):=by kernel_rfl
theorem Tryz.Z8:(Tryz.prog.info? 84).map (λi=>(i.zero,i.size,i.bytes))=some (some (.slice none 0 0),1,24):=by kernel_rfl
theorem Tryz.Z9:Elem Tryz.prog 83 84 1 24:=Elem.of Tryz.underlying83 Tryz.Z8 rfl (by decide) (by decide)
def Et (v:Value):List Value:=[v]
theorem Cc {w:World} {X:Nat} {a b c:Value} {t:TypeId} (h:w.heap[X]? = some (.cells #[a,b,c] t (0,0))) (p:Value) :
 (w.setCell ⟨X,0,none⟩ p).heap[X]? = some (.cells #[p,b,c] t (0,0))/\Mv (λb=>b=X) w (w.setCell ⟨X,0,none⟩ p) :=
 ⟨by have h1:=block_setCell (p:=⟨X,0,none⟩) h rfl p;simpa using h1,(Mv.refl (λb=>b=X) w).setCell (.inl rfl) _⟩
abbrev LF (w:World) (base:Nat) (v:Value) (l:List Value):Prop:=w.ownsRow base 84 1 v l.length (flat Et l)
structure lX (w:World) (X:Nat) (x:World) (cv:Value) (l:List Value):Prop where
 g:Grow w x
 blk:x.heap[X]? = some (.cells #[cv,.slice none 0 0,.slice none 0 0] 86 (0,0))
 res:x.heap[w.heap.size]? = some (.cells #[.slice none 0 0,.slice none 0 0,.slice none 0 0] 86 (0,0))
 row:LF x w.heap.size cv l
 hX:w.heap.size<X
theorem lX.grow {w x y:World} {X:Nat} {cv:Value} {l:List Value} (h:lX w X x cv l) (hm:Grow x y):lX w X y cv l:=⟨gtr h.g hm,ai h.blk hm,ai h.res hm,bg h.row hm (λ_ _ e=>e),h.hX⟩
theorem lX.drew {w x:World} {X:Nat} {cv:Value} {l:List Value} (h:lX w X x cv l):lX w X x.drew cv l:=⟨Mv.drew h.g,h.blk,h.res,h.row,h.hX⟩
def Au (w:World) (X:Nat) (y:World) (cv:Value):Prop:=Grow w y/\y.heap[X]? = some (.cells #[cv,.slice none 0 0,.slice none 0 0] 86 (0,0))/\y.heap[w.heap.size]? = some (.cells #[.slice none 0 0,.slice none 0 0,.slice none 0 0] 86 (0,0))/\w.heap.size<X
theorem lX.app {w x y:World} {X:Nat} {cv:Value} {l:List Value} (h:lX w X x cv l) (hm:Mv (λb=>cv.ownBlock=some b) x y):Au w X y cv :=
 ⟨h.g.trans hm (λb e => .inr (h.row.lt b e).1),by rw[hm.block _ (lt_of_block h.blk) (λe=>dK h.row h.blk (by decide) e)];exact h.blk,by rw[hm.block _ (lt_of_block h.res) (λe=>dK h.row h.res (by decide) e)];exact h.res,h.hX⟩
theorem Au.grow {w x y:World} {X:Nat} {cv:Value} (h:Au w X x cv) (hm:Grow x y):Au w X y cv:=⟨gtr h.1 hm,ai h.2.1 hm,ai h.2.2.1 hm,h.2.2.2⟩
theorem Au.store {w y:World} {X:Nat} {cv v:Value} {l:List Value} (h:Au w X y cv) (hr:LF y w.heap.size v l):lX w X (y.setCell ⟨X,0,none⟩ v) v l:=by
 obtain⟨h1,h2,h3,h4⟩:=h;obtain⟨hb,hm⟩:=Cc h2 v;exact⟨h1.trans hm (λb e => .inr (by omega)),hb,by rw[hm.block _ (lt_of_block h3) (λe=>by omega)];exact h3,bg hr hm (λg hg e=>by subst e;exact dK hr h2 (by decide) hg),h4⟩
def YN (X:Nat) (cv vv:Value) (fx:Int) (w:World) (cs:List Value):Nat->List Value->World->Prop
 |0,[v],_=>v = .pointer (some ⟨X,0,none⟩)
 |1,[v],_=>v=cv
 |2,[v],_=>v=vv
 |3,[v],_=>v = .int .i64 fx
 |4,[v],_=>∃ a n c,v = .slice a n c
 |5,[v],x=>∃ g u,v = .slice (some ⟨g,0,none⟩) 1 1/\u.oneCell'=true/\az 1 Et x (.slice (some ⟨g,0,none⟩) 1 1) [u]
 |6,[v],x=>∃ a c u,v = .slice a (cs.length+1) c/\LF x w.heap.size (.slice a (cs.length+1) c) (cs ++ [u])/\Au w X x cv
 |7,[v],_=>v = .pointer (some ⟨X,0,none⟩)
 |8,_,x=>∃ xM u,lX w X x xM (cs ++ [u])
 |_,_,_=>True
section
variable {X:Nat} {cv vv:Value} {fx:Int} {w x y:World} {cs:List Value}
theorem YN.grow (h:Grow x y):∀ j l,YN X cv vv fx w cs j l x->YN X cv vv fx w cs j l y:=by
 intro j l hy;unfold YN at hy ⊢;split <;> first
  |(obtain⟨g,u,h1,h2,h3⟩:=hy;exact⟨g,u,h1,h2,h3.later h⟩)
  |(obtain⟨a,c,u,h1,h2,h3⟩:=hy;exact⟨a,c,u,h1,bg h2 h (λ_ _ e=>e),h3.grow h⟩)
  |(obtain⟨a,c,h1⟩:=hy;exact⟨a,c,h1.grow h⟩)
  |exact hy
  |trivial
theorem YN.keep:∀ j l,¬ j=4->¬ j=5->¬ j=6->¬ j=8->YN X cv vv fx w cs j l x->YN X cv vv fx w cs j l y:=by
 intro j l h4 h5 h6 h8 hy;unfold YN at hy ⊢;split <;> first
  |exact absurd rfl h4
  |exact absurd rfl h5
  |exact absurd rfl h6
  |exact absurd rfl h8
  |exact hy
  |trivial
end
def xy (l:List bu):Int:=if jY l then 0 else 3
theorem _d (v:Value) (l:List bu) (w:World) (h:az 3 bu.cells w v l) :
 Calls Tryz.prog 34 #[v,.slice none 0 0] w λe w'=>∃ a1 n1 c1 a2 n2 c2 a3 n3 c3,e = .returned (.tuple #[.agg #[.slice a1 n1 c1,.slice a2 n2 c2,.slice a3 n3 c3],.int .i64 (xy l)])/\Grow w w':=by
 obtain⟨va,vc,rfl,Fa,hvl⟩:=h.form;have HR:=ł h;have xU:=ł (λ(y:World) (hy:Grow w y)=>YB _ l y (h.later hy));have nO:=ł (heap_alloc_new w (.cells #[.slice none 0 0,.slice none 0 0,.slice none 0 0] 86));have df:=ł (show Grow w (w.alloc (.cells #[.slice none 0 0,.slice none 0 0,.slice none 0 0] 86))from(Mv.refl _ w).alloc _);clear h;cases hval:jY l with
 |false =>
  have HE:=ł (show xy l=3 from by simp[xy,hval]);rw[hval]at xU;clear hval
  go_enter Tryz.func34,Tryz.ntmps34
  go_wp2_with fail;generalize w.alloc (.cells #[.slice none 0 0,.slice none 0 0,.slice none 0 0] 86)=w1 at *;refine(xU.out _ df.out).mono ?_;rintro e w2 ⟨rfl,hg⟩;have HG2:=ł (gtr df.out hg);have hb:=ai nO.out hg;obtain⟨hs,hm⟩:=Ml hb (.slice none 0 0) (.slice none 0 0) (.slice none 0 0);obtain⟨r0,r1,r2⟩:=cK hb;have rt:=aG hb;have HS:=ł hs;have aJ:=ł (show Grow w _ from Mv.trans HG2.out hm (λb e => .inr (by omega)));clear hb hs hm hg;go_wp2_with fail;obtain⟨t0,t1,t2⟩:=cK HS.out;exact bodyPost_ret (v := .tuple #[.agg #[.slice none 0 0,.slice none 0 0,.slice none 0 0],.int .i64 3]) (by simp[results,Tryz.results34,go_sem,t0,t1,t2]) rfl ⟨_,_,_,_,_,_,_,_,_,by rw[HE.out],aJ.out⟩
 |true =>
  have HE:=ł (show xy l=0 from by simp[xy,hval]);have afa:l.length<=32:=by simp[jY]at hval;exact hval.1
  have dE:=ł (show ∀ x∈l,0<=tN x/\tN x<=16 from λx hx=>by
   simp only[jY,Bool.and_eq_true,List.all_eq_true]at hval;have:=hval.2 x hx;simp only[bu.okB,ui]at this;unfold tN;split
   · omega
   · split at this
     · simp at this;omega
     · split at this
       · simp at this;omega
       · cases this)
  rw[hval]at xU;clear hval
  go_enter Tryz.func34,Tryz.ntmps34
  go_wp2_with fail;generalize w.alloc (.cells #[.slice none 0 0,.slice none 0 0,.slice none 0 0] 86)=w1 at *;have hs1:=df.out.size;have hs0:=lt_of_block nO.out;refine(xU.out _ df.out).mono ?_;rintro e w2 ⟨rfl,hg⟩;have HG2:=ł (gtr df.out hg);have HR2:=ł (ai nO.out hg);have hs2:=hg.size;clear hg;go_wp2_with fail;refine(YE _).mono ?_;rintro e w3 ⟨rfl,hg⟩;have hs3:=hg.size;have pG:=ł (show lX w w3.heap.size (w3.alloc (.cells #[.slice none 0 0,.slice none 0 0,.slice none 0 0] 86)) (.slice none 0 0) []from⟨(gtr HG2.out hg).alloc _,heap_alloc_new w3 _,aS (ai HR2.out hg) _,World.ownsRow_nil _ _ _ _,by omega⟩);clear hg;go_wp2_with fail;generalize w3.alloc (.cells #[.slice none 0 0,.slice none 0 0,.slice none 0 0] 86)=w4 at *;generalize w3.heap.size=X at *;clear hs0 hs1 hs2 hs3 xU nO df HG2 HR2
  go_loopw [22] (λt wr=>∃ (k:Nat) (cv:Value) (cs:List Value),t = .int .i64 k/\k<=l.length/\cs.length=k/\lX w X wr cv cs) (λt _=>l.length - (intOf t).toNat)
  case atStart=>exact⟨0,_,[],rfl,Nat.zero_le _,rfl,pG.out⟩
  obtain⟨k,cv,cs,rfl,hk,hcs,hst⟩:=hrel;have HCS:=ł hcs;obtain⟨na,nc,pQ⟩:=gF hst.row;subst pQ;have nG:=ł hst;have hcl:cs.length<=32:=by omega
  clear hst hcs pG;by_cases hlt:k<l.length
  · obtain⟨b,off,cap',e,_,hcc⟩:=(HR.out.later nG.out.g).at hlt;simp only[Value.slice.injEq,true_and]at e;obtain⟨rfl,rfl⟩:=e;have c0:=hcc 0 _ rfl;have c1:=hcc 1 _ rfl;have c2:=hcc 2 _ rfl;have mD:=ł (dE.out l[k] (List.getElem_mem hlt));generalize l[k]=x at *;obtain⟨kR,vk,vn⟩:=x;simp only[Nat.add_zero]at c0 c1 c2;have hbl:b<wr.heap.size:=World.block_lt_of_cell? wr _ c0;have bA:=ł (nG.out.grow ((Mv.refl _ wr).alloc (.cells #[.string kR,.int .u8 vk,.int .i64 vn] 50)));have rG:=ł (heap_alloc_new wr (.cells #[.string kR,.int .u8 vk,.int .i64 vn] 50));have hXl:X≠wr.heap.size:=λe=>by have:=lt_of_block nG.out.blk;omega
    have zF:=ł (λg hg=>(nG.out.row.lt g hg).2);have Ao:wr.heap.size<(wr.alloc (.cells #[.string kR,.int .u8 vk,.int .i64 vn] 50)).heap.size:=by simp
    clear hcc;go_upto_region 9 with fail;clear c0 c1 c2 hbl;generalize wr.alloc (.cells #[.string kR,.int .u8 vk,.int .i64 vn] 50)=w5 at *;have HST:=bA;have lW:=ł (λ(x:World) (hx:Mv (λb=>b=X\/Value.ownBlock (.slice na cs.length nc)=some b) w5.drew x)=>(show x.heap[wr.heap.size]? = _ from(hx.block wr.heap.size Ao (λe=>by rcases e with e|e;exact hXl e.symm;have:=zF.out _ e;omega)).trans rG.out));refine rJ (by kernel_rfl) 36 [some 26,some 27,some 28,some 29,some 30,some 31,some 32,some 33,none] [[],[0],[],[2],[3,3],[4],[1,5,3],[0,1,2,3,4,5,6],[7,6,6,0,1,2,3,4,5,6]] [[],[0],[],[2],[3],[4],[1,5],[],[7,6]] [[0],[1],[2],[3],[4],[5],[6],[7],[8]] [[],[],[],[],[6],[6],[8],[],[]] rfl (by kernel_rfl) (Mv (λb=>b=X\/Value.ownBlock (.slice na cs.length nc)=some b)) (λ_=>Mv.refl _ _) (λx y z h1 h2=>h1.trans h2 (λ_ e => .inl e)) (YN X (.slice na cs.length nc) (.agg #[.string kR,.int .u8 vk,.int .i64 vn]) (tN ⟨kR,vk,vn⟩) w cs) (λ_ x=>lX w X x (.slice na cs.length nc) cs) [[6]] ?z0 ?steps ?done
    case z0=>intro z hz;exact HST.out.drew
    case steps =>
     refine⟨?s0,?s1,?s2,?s3,?s4,?s5,?s6,?s7,?s8,trivial⟩
     case s0 =>
      intro vs x hx hY hZ;clear hY hZ;simp only[zR];go_simp;exact⟨Mv.refl _ _,by intros;assumption,rfl,by intros;assumption⟩
     case s1 =>
      intro vs x hx hY hZ;have h0:vs 0 = .pointer (some ⟨X,0,none⟩):=hY 0 (by simp) (by simp);obtain⟨k0,k1,k2⟩:=cK (hZ 0 (by simp) (by simp)).blk;clear hY hZ;simp only[zR,h0];go_simp;exact⟨Mv.refl _ _,by intros;assumption,rfl,by intros;assumption⟩
     case s2 =>
      intro vs x hx hY hZ;obtain⟨k0,k1,k2⟩:=cK (lW.out x hx);clear hY hZ;simp only[zR];go_simp;exact⟨Mv.refl _ _,by intros;assumption,rfl,by intros;assumption⟩
     case s3 =>
      intro vs x hx hY hZ;have h2:vs 2 = .agg #[.string kR,.int .u8 vk,.int .i64 vn]:=hY 2 (by simp) (by simp);have HC:=ł (YD ⟨kR,vk,vn⟩ x);clear hY hZ;simp only[zR,h2];go_simp;refine HC.out.mono ?_;rintro e y ⟨rfl,hgr⟩;exact⟨_,rfl,hgr.mono (λ_ e=>e.elim),(by first|exact λh=>lX.grow h hgr|(intros;exact lX.grow (by assumption) hgr)),rfl,by intros;exact YN.grow hgr _ _ (by assumption)⟩
     case s4 =>
      intro vs x hx hY hZ;have h3:vs 3 = .int .i64 (tN ⟨kR,vk,vn⟩):=hY 3 (by simp) (by simp);obtain⟨i0,hi,hz0,hz1,hz2⟩:=info_parts Tryz.RI;have hmk:=run_make (P:=Tryz.prog) x 84 3 i0 _ Tryz.underlying84 hi hz0 .i64 .i64 (tN ⟨kR,vk,vn⟩) (tN ⟨kR,vk,vn⟩) mD.out.1 (Int.le_refl _) (by rw[hz2];have:=mD.out.2;omega) (by have:=mD.out.2;omega);clear hY hZ hi hz0 hz1 hz2;generalize tN ⟨kR,vk,vn⟩=fx at *;simp only[zR,h3];go_simp;exact⟨(Mv.refl _ _).alloc _,(by first|exact λh=>lX.grow h ((Mv.refl _ _).alloc _)|(intros;exact lX.grow (by assumption) ((Mv.refl _ _).alloc _))),⟨_,_,_,rfl⟩,by intros;exact YN.grow ((Mv.refl _ _).alloc _) _ _ (by assumption)⟩
     case s5 =>
      intro vs x hx hY hZ;obtain⟨u4,v4,c4,(h4:vs 4=_)⟩:=hY 4 (by simp) (by simp);clear hY hZ;simp only[zR,h4];go_simp;exact⟨(Mv.refl _ _).alloc _,(by first|exact λh=>lX.grow h ((Mv.refl _ _).alloc _)|(intros;exact lX.grow (by assumption) ((Mv.refl _ _).alloc _))),⟨x.heap.size,.slice u4 v4 c4,rfl,rfl,az.bO (n:=1) (f:=Et) (l:=[.slice u4 v4 c4]) (λ_=>rfl) (heap_alloc_new x _) rfl (by simp)⟩,by intros;exact YN.grow ((Mv.refl _ _).alloc _) _ _ (by assumption)⟩
     case s6 =>
      intro vs x hx hY hZ;have h1:vs 1 = .slice na cs.length nc:=hY 1 (by simp) (by simp);obtain⟨g5,u5,(h5:vs 5=_),ho,hrow⟩:=hY 5 (by simp) (by simp);have hst:=hZ 0 (by simp) (by simp);obtain⟨a',c',w2,⟨hok,hv,hw⟩,hrow2,bz,hown2⟩:=qA Tryz.Z9 (f:=Et) (λ_=>rfl) _ _ cs [u5] _ x hst.row hrow (by intro z hz;simp at hz;subst hz;intro u hu;simp[Et]at hu;subst hu;exact ho) hst.g.size (by simp;omega);have HJ:=ł (hst.app bz);have HR2:=ł hrow2;have dM:=ł bz;clear hY hZ hst hrow hrow2 bz hown2;simp only[List.length_cons,List.length_nil,Nat.zero_add]at hok hv hw;simp only[zR,h1,h5];go_simp;exact⟨dM.out.mono (λ_ e => .inl (.inr e)),⟨a',c',u5,rfl,HR2.out,HJ.out⟩,λj l=>by intros;refine YN.keep j l ?_ ?_ ?_ ?_ (by assumption) <;> (intro e;subst e;first|contradiction|simp_all)⟩
     case s7 =>
      intro vs x hx hY hZ;clear hY hZ;simp only[zR];go_simp;exact⟨Mv.refl _ _,rfl,by intros;assumption⟩
     case s8 =>
      intro vs x hx hY hZ;have h7:vs 7 = .pointer (some ⟨X,0,none⟩):=hY 7 (by simp) (by simp);obtain⟨a',c',u6,(h6:vs 6=_),hrow,hj⟩:=hY 6 (by simp) (by simp);have HS:=ł (hj.store hrow);obtain⟨k0,k1,k2⟩:=cK hj.2.1;have zt:=aG hj.2.1;have dM:=ł (Cc hj.2.1 (vs 6));rw[h6]at dM;clear hY hZ hrow hj;simp only[zR,h7,h6];go_simp;exact⟨dM.out.2.mono (λ_ e => .inl (.inl e)),⟨_,u6,HS.out⟩,λj l=>by intros;refine YN.keep j l ?_ ?_ ?_ ?_ (by assumption) <;> (intro e;subst e;first|contradiction|simp_all)⟩
    case done =>
    intro vs wy hxy hY _;obtain⟨xM,u6,hst'⟩:=hY 8 (by decide) rfl;simp only[List.length_cons,List.length_nil,Nat.zero_add,Nat.reduceAdd];rw[show List.range 9=[0,1,2,3,4,5,6,7,8]from rfl];simp only[zR];clear hY;have mH:=ł hst';clear hst' hxy lW HST bA rG zF;go_wp2_with fail
    go_roundw
    case rel=>exact⟨k+1,_,cs ++ [u6],by go_num,by omega,by simp[HCS.out],mH.out⟩
    case measure=>(simp[intOf] <;> omega)
  · obtain⟨k0,k1,k2⟩:=cK nG.out.blk;obtain⟨m0,m1,m2⟩:=cK nG.out.res;have hl1:=lt_of_block nG.out.blk;have hl2:=lt_of_block nG.out.res;have zt:=aG nG.out.res;obtain⟨hs,hm⟩:=Ml nG.out.res (.slice na cs.length nc) (.slice none 0 0) (.slice none 0 0);have HS:=ł hs;have aJ:=ł (show Grow w _ from Mv.trans nG.out.g hm (λb e => .inr (by omega)));clear hs hm nG;go_wp2_with fail;obtain⟨t0,t1,t2⟩:=cK HS.out;exact bodyPost_ret (v := .tuple #[.agg #[.slice na cs.length nc,.slice none 0 0,.slice none 0 0],.int .i64 0]) (by simp[results,Tryz.results34,go_sem,t0,t1,t2]) rfl ⟨_,_,_,_,_,_,_,_,_,by rw[HE.out],aJ.out⟩
def vC:List ByteArray->List bu->Bool
 |_,[]=>false
 |seen,v :: r=>seen.any (λs=>s == v.name) || vC (seen ++ [v.name]) r
def jf (l:List bu):Int:=if jY l then(if vC [] l then 22 else 0)else 3
def aaM (w:World) (l:List bu) (e:Ending) (w':World):Prop:=∃ sv,e = .returned (.tuple #[.agg #[sv,.int .i64 (if jf l=0 then frameC l else iK).cells,.int .i64 (if jf l=0 then frameC l else iK).stacks],.int .i64 (jf l)])/\fE w' sv (if jf l=0 then frameC l else iK)/\Grow w w'
def Ib:Value := .agg #[.int .u8 57,.int .i64 0,.string ⟨#[]⟩,.slice none 0 0]
def vO:Prop:=∀ (v:Value) (l:List bu) (w:World),az 3 bu.cells w v l->Calls Tryz.prog 14 #[v,Ib] w (aaM w l)
def IX (w:World) (n:Int) (e:Ending) (w':World):Prop:=e = .returned (.int .i64 n)/\Grow w w'
def sj (f:ax) (x:Tree × bu):Bool := !(x.2.kind == 2) || ((au f x.1.name 2).getD noSlot).len == x.2.len
def wX (f:ax) (procs:List bQ) (s:ByteArray) (l:List Tree):Int :=
 let ps:=((tV procs s).map bQ.params).getD []
 if l.length≠ps.length then 7 else if(l.zip ps).all (sj f)then jf ps else 7
theorem Dg (procs:List ak) (s:ByteArray):((tV (procs.map ak.d) s).map bQ.params).getD []=((eQ procs s).getD gU).params:=by
 rw[Q0];cases eQ procs s <;> rfl
theorem Pk {α β:Type} (a:List α) (b:List β) (i:Nat) (h:a.length=b.length) (hi:i<a.length):(a.zip b).take (i+1)=(a.zip b).take i ++ [(a[i],b[i]'(by omega))]:=by
 rw[List.take_succ_eq_append_getElem (by simp;omega)];simp
theorem Zx (hof:vO) (sv pv:Value) (f:ax) (procs:List ak) (k n:Int) (s:ByteArray) (kv:Value) (l:List ae) (w:World) (hf:fE w sv f) (hp:mg w pv procs) (hx:aR w (.mk k n s kv l)) :
 Calls Tryz.prog 77 #[.agg #[sv,.int .i64 f.cells,.int .i64 f.stacks,pv],ae.val (.mk k n s kv l)] w (IX w (wX f (procs.map ak.d) s (ae.ts l))):=by
 obtain⟨fa,fc,rfl,hfc,hfl⟩:=hf.row.form;obtain⟨pa,pc,rfl,hpc,hpl⟩:=hp.row.form;obtain⟨ka,kc,rfl,hkc,hkl⟩:=hx.form;have VE:=ł (show wX f (procs.map ak.d) s (ae.ts l)=if l.length≠((eQ procs s).getD gU).params.length then 7 else if((ae.ts l).zip ((eQ procs s).getD gU).params).all (sj f)then jf ((eQ procs s).getD gU).params else 7 from by
  unfold wX;rw[Dg,ae.cz])
 have uD:=ł (λ(y:World) (hy:Grow w y)=>KE (.slice pa procs.length pc) procs s y (hp.later hy));have xz:=Ke hp s;generalize (eQ procs s).getD gU=p at *;generalize (eQ procs s).isSome=found at *;obtain⟨ps,params,qv,body⟩:=p;obtain⟨qa,qc,rfl,hqc,ll⟩:=xz.form;have fZ:=ł xz.params;obtain⟨bk,bn,bs,Jk,bl⟩:=body;obtain⟨ba,bc,rfl,-,-⟩:=xz.body.form;simp only[ak.val]at uD;have HF:=ł hf;have jR:=ł hx;obtain⟨wu,aF,HG2⟩:=a2 w (.cells #[.slice fa f.slots.length fc,.int .i64 f.cells,.int .i64 f.stacks,.slice pa procs.length pc] 62) (.cells #[.int .u8 k,.int .i64 n,.string s,.slice ka l.length kc] 24);clear hf hp hx xz;simp only[ae.val]
 go_enter Tryz.func77,Tryz.ntmps77
 go_wp2_with fail;generalize ((w.alloc (.cells #[.slice fa f.slots.length fc,.int .i64 f.cells,.int .i64 f.stacks,.slice pa procs.length pc] 62)).alloc (.cells #[.int .u8 k,.int .i64 n,.string s,.slice ka l.length kc] 24))=w2 at *;refine(uD.out _ HG2.out).mono ?_;rintro e w3 ⟨rfl,hg⟩;have aH:=ł (gtr HG2.out hg);have hub:=ai wu.out hg;have hnb:=ai aF.out hg;have hpb:=heap_alloc_new w3 (.cells #[.string ps,.slice qa params.length qc,.int .u8 bk,.int .i64 bn,.string bs,.slice ba bl.length bc] 60);have HU4:=ł (aS hub (.cells #[.string ps,.slice qa params.length qc,.int .u8 bk,.int .i64 bn,.string bs,.slice ba bl.length bc] 60));have ru:=ł (aS hnb (.cells #[.string ps,.slice qa params.length qc,.int .u8 bk,.int .i64 bn,.string bs,.slice ba bl.length bc] 60));have Fx:=ł hpb;have aP:=ł (gtr aH.out ((Mv.refl _ w3).alloc (.cells #[.string ps,.slice qa params.length qc,.int .u8 bk,.int .i64 bn,.string bs,.slice ba bl.length bc] 60)));obtain⟨⟨n0,n1⟩,n2,n3⟩:=aC hnb;have hln:=lt_of_block hnb;clear hub hnb hpb hg wu aF uD;by_cases hll:l.length=params.length
 · have hne:((l.length:Int) != params.length)=false:=by simp[hll]
   have Tz:=ł (show wX f (procs.map ak.d) s (ae.ts l)=if((ae.ts l).zip params).all (sj f)then jf params else 7 from by rw[VE.out,if_neg (by simp;exact hll)]);have zJ:=ł hll;clear hll;go_wp2_with fail;generalize w3.alloc (.cells #[.string ps,.slice qa params.length qc,.int .u8 bk,.int .i64 bn,.string bs,.slice ba bl.length bc] 60)=w4 at *;generalize w3.heap.size=PX at *;clear n0 n1 n2 n3 hln hne;have hpx:=lt_of_block Fx.out
   go_loopw [31] (λt wr=>∃ i:Nat,t = .int .i64 i/\i<=params.length/\Grow w4 wr/\(((ae.ts l).zip params).take i).all (sj f)=true) (λt _=>params.length - (intOf t).toNat)
   case atStart=>exact⟨0,rfl,Nat.zero_le _,Mv.refl _ _,rfl⟩
   obtain⟨i,rfl,hi,hg,hall⟩:=hrel;have HG:=ł hg;have HA:=ł hall;clear hg hall;by_cases hlt:i<params.length
   · have hil:i<l.length:=by have:=zJ.out;omega
     obtain⟨b,off,cap',e,_,hcc⟩:=(fZ.out.later (gtr aP.out HG.out)).at hlt;simp only[Value.slice.injEq,true_and]at e;obtain⟨rfl,rfl⟩:=e;have c0:=hcc 0 _ rfl;have c1:=hcc 1 _ rfl;have c2:=hcc 2 _ rfl;obtain⟨kb,ko,y9,bU,-,-⟩:=jR.out.row.2.2.2.1.at (show 0<l.length by omega);simp only[Value.slice.injEq,true_and]at bU;obtain⟨rfl,rfl⟩:=bU;have fT:=fe jR.out i hil;have HT:=ł (show(((ae.ts l).zip params).take (i+1)).all (sj f)=sj f (l[i].t,params[i])from by
      rw[Pk (ae.ts l) params i (by rw[ae.cz];exact zJ.out) (by rw[ae.cz];exact hil),List.all_append,HA.out,ae.gW l i hil];simp)
     have Fy:=ł (λ(h:sj f (l[i].t,params[i])=false)=>show((ae.ts l).zip params).all (sj f)=false from by
      apply Bool.eq_false_iff.2;intro ha;have hz:i<((ae.ts l).zip params).length:=by simp[ae.cz];omega
      have:=List.all_eq_true.1 ha _ (List.getElem_mem hz);rw[List.getElem_zip,ae.gW l i hil,h]at this;cases this)
     generalize l[i]=y at *;generalize params[i]=v at *;obtain⟨yk,yn,ys,yv,yl⟩:=y;obtain⟨kR,vk,vn⟩:=v;simp only[Nat.add_zero]at c0 c1 c2;have VF:=ł (show sj f (ae.t (.mk yk yn ys yv yl),⟨kR,vk,vn⟩)=(!(vk == 2) || ((au f ys 2).getD noSlot).len == vn)from rfl);have hbl:b<wr.heap.size:=World.block_lt_of_cell? wr _ c0;have rG:=ł (heap_alloc_new wr (.cells #[.string kR,.int .u8 vk,.int .i64 vn] 50));have aU:=ł (HG.out.alloc (.cells #[.string kR,.int .u8 vk,.int .i64 vn] 50));clear hcc;by_cases hk2:vk=2
     · subst hk2;have uL:=ł fT;clear fT;go_upto_region 8 with fail;clear c0 c1 c2 hbl;generalize wr.alloc (.cells #[.string kR,.int .u8 2,.int .i64 vn] 50)=w5 at *;have bE:=ł (λ(y:World) (hy:Grow w5 y)=>And.intro (ai HU4.out (gtr aU.out hy)) (And.intro (ai ru.out (gtr aU.out hy)) (And.intro (uL.out.later (gtr aP.out (gtr aU.out hy))) (HF.out.later (gtr aP.out (gtr aU.out hy))))));refine wg 65 [some 40,some 41,some 42,some 43,some 44,some 45,some 46,some 47,some 48,some 39,some 49,some 50,some 9,none,some 10] [[],[0],[],[2],[],[3,4],[5],[6],[1,7],[8],[9],[9],[],[12,10],[11]] [] [.c (.pointer (some ⟨w.heap.size,0,none⟩)),.c (.agg #[.slice fa f.slots.length fc,.int .i64 f.cells,.int .i64 f.stacks]),.c (.pointer (some ⟨(w.heap.size+1),3,none⟩)),.c (.slice (some ⟨kb,ko,none⟩) l.length kc),.c (.int .i64 i),.c (.pointer (some ⟨kb,ko+i * 4,none⟩)),.c (.pointer (some ⟨kb,ko+i * 4+2,none⟩)),.c (.string ys),.c (.tuple #[((au f ys 2).getD noSlot).val,.bool (au f ys 2).isSome]),.c (.tuple #[((au f ys 2).getD noSlot).val,.bool (au f ys 2).isSome]),.c (((au f ys 2).getD noSlot).val),.c (.bool (au f ys 2).isSome),.al 13 10 #[.string ⟨#[]⟩,.int .u8 0,.int .i64 0,.int .i64 0] 95,.st 12,.c (.bool (au f ys 2).isSome)] trivial (dP rfl) ?steps ?done
       case steps =>
        refine⟨?s0,?s1,?s2,?s3,?s4,?s5,?s6,?s7,?s8,?s9,?s10,?s11,?s12,?s13,?s14,trivial⟩
        case s0|s2|s4|s6|s9|s10|s11|s14 =>
         refine oo (λvs x hP => ?_);simp only[zS];go_simp;exact gc
        case s1 =>
         refine ok bE (λvs x hG HX hP => ?_);obtain⟨⟨u0,u1⟩,u2,u3⟩:=aC HX.out.1;simp only[zS];go_simp;exact gc
        case s3 =>
         refine ok bE (λvs x hG HX hP => ?_);obtain⟨⟨n0,n1⟩,n2,n3⟩:=aC HX.out.2.1;simp only[zS];go_simp;exact gc
        case s5 =>
         refine ok bE (λvs x hG HX hP => ?_);have hbd:i<l.length:=hil;simp only[zS];go_simp;exact gc
        case s7 =>
         refine ok bE (λvs x hG HX hP => ?_);have d2:=HX.out.2.2.1.four.2.1;simp only[zS];go_simp;exact gc
        case s8 =>
         refine ok bE (λvs x hG HX hP => ?_);have HC:=ł (oZ (.slice fa f.slots.length fc) f ys 2 x HX.out.2.2.2);simp only[zS];go_simp;refine(HC.out).mono ?_;rintro e y ⟨rfl,hg⟩;exact⟨_,rfl,aX hg rfl⟩
        case s12 =>
         refine oz (λvs x => ?_);simp only[zS];go_simp;exact⟨rfl,rfl⟩
        case s13 =>
         refine os (λvs x g hg hb hv => ?_);have h10:vs 10=_:=hv;obtain⟨c0,c1,c2,c3⟩:=dN hb;have zt:=aG hb;simp only[zS,hg,h10];go_simp;exact mh hb _ _ _ _
       case done =>
       intro vs w6 hE;have hG:=hE.grow;obtain⟨g12,a12,l12,m12,b12⟩:=hE.box 12;simp only[zS]at b12;simp only[zS,Nat.reduceAdd,a12];have ry:=ł b12;generalize hsl:((au f ys 2).getD noSlot)=sl at *;obtain⟨sl0,sl1,sl2,sl3⟩:=sl;simp only[bG]at ry;have lD:=ł (show sj f (ae.t (.mk yk yn ys yv yl),⟨kR,2,vn⟩)=(sl2 == vn)from by rw[VF.out];rfl);obtain⟨z0,z1,z2,z3⟩:=dN ry.out;obtain⟨v0,v1,v2⟩:=cK (ai rG.out hG);have hlz:=lt_of_block ry.out;have hlv:=lt_of_block (ai rG.out hG);have di:=ł (gtr aU.out hG);clear hE hG b12 hsl bE;by_cases hln:sl2=vn
       · have hnn:(sl2 != vn)=false:=by simp[hln]
         have HX:=ł (HT.out.trans (show sj f (ae.t (.mk yk yn ys yv yl),⟨kR,2,vn⟩)=true from by rw[lD.out];simp[hln]));clear hln Fy HT;go_wp2_with fail
         go_roundw
         case rel=>exact⟨i+1,by go_num,by omega,di.out,HX.out⟩
         case measure=>(simp[intOf] <;> omega)
       · have hnn:(sl2 != vn)=true:=by simp[hln]
         have HX:=ł (show wX f (procs.map ak.d) s (ae.ts l)=7 from by rw[Tz.out,Fy.out (by rw[lD.out];simp[hln])];simp);clear hln Fy HT;go_wp2_with fail;go_ret;exact⟨iF HX.out.symm,gtr aP.out di.out⟩
     · have hnn:(vk != 2)=true:=by simp[hk2]
       have HX:=ł (HT.out.trans (show sj f (ae.t (.mk yk yn ys yv yl),⟨kR,vk,vn⟩)=true from by rw[VF.out];simp[hk2]));clear hk2 Fy HT;go_wp2_with fail
       go_roundw
       case rel=>exact⟨i+1,by go_num,by omega,aU.out,HX.out⟩
       case measure=>(simp[intOf] <;> omega)
   · have HX:=ł (show wX f (procs.map ak.d) s (ae.ts l)=jf params from by
      rw[Tz.out];have:((ae.ts l).zip params).take i=(ae.ts l).zip params:=List.take_of_length_le (by simp[ae.cz];omega);rw[← this,HA.out];rfl)
     have Oc:=ai Fx.out HG.out;obtain⟨⟨p0,p1,p2⟩,p3,p4,p5⟩:=yz Oc;have hlp:=lt_of_block Oc;have uM:=ł (hof (.slice qa params.length qc) params wr (fZ.out.later (gtr aP.out HG.out)));have VG:=gtr aP.out HG.out;have bf:=ł VG;clear Oc VG;unfold Ib at uM;go_wp2_with fail;refine uM.out.mono ?_;rintro e w7 ⟨sv7,he7,TA,xV⟩;obtain⟨a7,c7,hs7,-,-⟩:=TA.row.form;subst hs7;subst he7;have Bt:=ł (gtr bf.out xV);clear xV TA uM p0 p1 p2 p3 p4 p5 hlp;generalize jf params=oe at *;generalize (if oe=0 then frameC params else iK)=fo at *;go_wp2_with fail;go_ret;exact⟨iF HX.out.symm,Bt.out.alloc _⟩
 · have hne:((l.length:Int) != params.length)=true:=by simp;omega
   have HX:=ł (VE.out.trans (if_pos hll));clear hll;go_wp2_with fail;go_ret;exact⟨iF HX.out.symm,aP.out⟩
end Go.Proofs.YtnobahchcongnaaGreatDoor
