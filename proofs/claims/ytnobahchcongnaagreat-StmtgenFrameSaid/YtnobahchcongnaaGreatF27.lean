import Derived.Test.YtnobahchcongnaaGreatF26
set_option linter.unusedSimpArgs false
set_option linter.unusedVariables false
set_option maxRecDepth 100000
set_option maxHeartbeats 25600000
namespace Go.Proofs.YtnobahchcongnaaGreat
open Go.RowKit Go.Instr
def mE (k n:Int):Bool:=if k=1\/k=3 then n == 0 else if k=2 then decide (1<=n) && decide (n<=16)else false
def aA.okB (v:aA):Bool:=mE v.kind v.len
def gN (l:List aA):Bool:=decide (l.length<=32) && l.all aA.okB
theorem VP (l:List aA) (k:Nat) (h:k<l.length):(l.take (k+1)).all aA.okB=((l.take k).all aA.okB && l[k].okB):=by
 rw[List.take_succ_eq_append_getElem h,List.all_append];simp
theorem Xb (l:List aA) (k:Nat) (h:k<l.length) (hf:l[k].okB=false):l.all aA.okB=false:=by
 apply Bool.eq_false_iff.2;intro ha;have:=List.all_eq_true.1 ha l[k] (List.getElem_mem h);rw[hf]at this;cases this
theorem Xc (v:Value) (l:List aA) (w:World) (h:ax 3 aA.cells w v l):Calls Tryz.prog 50 #[v] w (iK w (gN l)):=by
 obtain⟨va,vc,rfl,oC,hvl⟩:=h.form;have HR:=ł h;clear h;by_cases h32:l.length<=32
 · have HV:=ł (show gN l=l.all aA.okB from by simp[gN,h32])
   go_enter Tryz.func50,Tryz.ntmps50
   go_wp2_with fail
   go_loopw [10] (λt wr=>∃ k:Nat,t = .int .i64 k/\k<=l.length/\Grow w wr/\(l.take k).all aA.okB=true) (λt _=>l.length - (intOf t).toNat)
   case atStart=>exact⟨0,rfl,Nat.zero_le _,Mv.refl _ _,rfl⟩
   obtain⟨k,rfl,hk,hg,hall⟩:=hrel;have HG:=ł hg;have HA:=ł hall;clear hall hg;by_cases hlt:k<l.length
   · obtain⟨b,off,cap',e,_,hcc⟩:=(HR.out.later HG.out).at hlt;simp only[Value.slice.injEq,true_and]at e;obtain⟨rfl,rfl⟩:=e;have c0:=hcc 0 _ rfl;have c1:=hcc 1 _ rfl;have c2:=hcc 2 _ rfl;have HT:=ł (λ(h:l[k].okB=true)=>show(l.take (k+1)).all aA.okB=true from by rw[VP l k hlt,HA.out,h];rfl);have HF:=ł (λ(h:l[k].okB=false)=>show gN l=false from by rw[HV.out];exact Xb l k hlt h);have iC:=ł (show l[k].okB=mE l[k].kind l[k].len from rfl);generalize l[k]=x at *;obtain⟨xs,xk,xn⟩:=x;simp only[Nat.add_zero]at c0 c1 c2 iC;have hbl:b<wr.heap.size:=World.block_lt_of_cell? wr _ c0;clear hcc;have hcs:xk=1\/xk=3\/xk=2\/(xk≠1/\xk≠3/\xk≠2):=by omega
     rcases hcs with rfl|rfl|rfl|⟨n1,n3,n2⟩
     · by_cases hn:xn=0
       · subst hn;have HX:=ł (HT.out (by rw[iC.out];rfl));clear HT HF;go_wp2_with fail
         go_roundw
         case rel=>exact⟨k+1,by go_num,by omega,HG.out.alloc _,HX.out⟩
         case measure=>(simp[intOf] <;> omega)
       · have HX:=ł (HF.out (by rw[iC.out];simp[mE,hn]));have hb:(xn != 0)=true:=by simpa using hn
         clear HT HF hn;go_wp2_with fail;go_ret;exact⟨aL HX.out.symm,HG.out.alloc _⟩
     · by_cases hn:xn=0
       · subst hn;have HX:=ł (HT.out (by rw[iC.out];rfl));clear HT HF;go_wp2_with fail
         go_roundw
         case rel=>exact⟨k+1,by go_num,by omega,HG.out.alloc _,HX.out⟩
         case measure=>(simp[intOf] <;> omega)
       · have HX:=ł (HF.out (by rw[iC.out];simp[mE,hn]));have hb:(xn != 0)=true:=by simpa using hn
         clear HT HF hn;go_wp2_with fail;go_ret;exact⟨aL HX.out.symm,HG.out.alloc _⟩
     · by_cases h1:1<=xn
       · by_cases h16:xn<=16
         · have HX:=ł (HT.out (by rw[iC.out];simp[mE,h1,h16]));have hd1:decide (xn<1)=false:=by simp;omega
           have hd2:decide (16<xn)=false:=by simp;omega
           clear HT HF;go_wp2_with fail
           go_roundw
           case rel=>exact⟨k+1,by go_num,by omega,HG.out.alloc _,HX.out⟩
           case measure=>(simp[intOf] <;> omega)
         · have HX:=ł (HF.out (by rw[iC.out];simp[mE];omega));have hd1:decide (xn<1)=false:=by simp;omega
           have hd2:decide (16<xn)=true:=by simp;omega
           clear HT HF;go_wp2_with fail;go_ret;exact⟨aL HX.out.symm,HG.out.alloc _⟩
       · have HX:=ł (HF.out (by rw[iC.out];simp[mE];omega));have hd1:decide (xn<1)=true:=by simp;omega
         clear HT HF;go_wp2_with fail;go_ret;exact⟨aL HX.out.symm,HG.out.alloc _⟩
     · have HX:=ł (HF.out (by rw[iC.out];simp[mE,n1,n2,n3]));have e1:(xk == 1)=false:=by simpa using n1
       have e2:(xk == 2)=false:=by simpa using n2
       have e3:(xk == 3)=false:=by simpa using n3
       clear HT HF n1 n2 n3;go_wp2_with fail;go_ret;exact⟨aL HX.out.symm,HG.out.alloc _⟩
   · have HX:=ł (show gN l=true from by rw[HV.out,← HA.out,show k=l.length from by omega,List.take_length]);go_wp2_with fail;go_ret;exact⟨aL HX.out.symm,HG.out⟩
 · have HV:=ł (show gN l=false from by simp[gN,h32]);have hd:decide (32<(l.length:Int))=true:=by simp;omega
   go_enter Tryz.func50,Tryz.ntmps50
   go_wp2_with fail;go_ret;exact⟨aL HV.out.symm,Mv.refl _ _⟩
def sF (v:aA):Int:=if v.kind=1 then 1 else v.len
theorem Xd (v:aA) (w:World):Calls Tryz.prog 51 #[v.val] w λe w'=>e = .returned (.int .i64 (sF v))/\Grow w w':=by
 obtain⟨s,k,n⟩:=v;by_cases hk:k=1
 · subst hk
   go_enter Tryz.func51,Tryz.ntmps51
   go_wp2_with fail;go_ret;exact⟨rfl,(Mv.refl _ _).alloc _⟩
 · have e1:(k == 1)=false:=by simpa using hk
   have HF:=ł (show sF ⟨s,k,n⟩=n from by simp[sF,hk]);clear hk
   go_enter Tryz.func51,Tryz.ntmps51
   go_wp2_with fail;go_ret;exact⟨cB HF.out.symm,(Mv.refl _ _).alloc _⟩
theorem Xe (w:World):Calls Tryz.prog 19 #[.slice none 0 0] w λe w'=>e = .returned (.slice none 0 0)/\Grow w w':=by
 have heq:(binOp .eql 51 (.slice none 0 0) (.slice none 0 0)).run Tryz.prog w = .ok (.bool true) w:=by
  have:=Lib.run_eql_slice_nil (P:=Tryz.prog) w 51 3 none 0 0 0 0 Tryz.underlying51
  simpa using this
 go_enter Tryz.func19,Tryz.ntmps19
 go_wp2_with fail;go_ret;exact⟨rfl,Mv.refl _ _⟩
attribute [local go_sem ↓] lu
theorem Tryz.Qq:(Tryz.prog.info? 3).map (λi=>(i.zero,i.size,i.bytes))=some (some (.int .i64 0),1,8):=by kernel_rfl
theorem Tryz.YR:(Tryz.prog.info? 51).map (λi=>(i.zero,i.size,i.bytes))=some (some (.slice none 0 0),1,24):=by kernel_rfl
theorem Tryz.YS:Elem Tryz.prog 73 51 1 24:=Elem.of Tryz.underlying73 Tryz.YR rfl (by decide) (by decide)
def CJ (v:Value):List Value:=[v]
theorem AO {w:World} {X:Nat} {a b c:Value} {t:TypeId} (h:w.heap[X]? = some (.cells #[a,b,c] t (0,0))) (p:Value) :
 (w.setCell ⟨X,0,none⟩ p).heap[X]? = some (.cells #[p,b,c] t (0,0))/\Mv (λb=>b=X) w (w.setCell ⟨X,0,none⟩ p) :=
 ⟨by have h1:=block_setCell (p:=⟨X,0,none⟩) h rfl p;simpa using h1,(Mv.refl (λb=>b=X) w).setCell (.inl rfl) _⟩
abbrev Km (w:World) (base:Nat) (v:Value) (l:List Value):Prop:=w.ownsRow base 51 1 v l.length (flat CJ l)
structure lW (w:World) (X:Nat) (x:World) (cv:Value) (l:List Value):Prop where
 g:Grow w x
 blk:x.heap[X]? = some (.cells #[cv,.slice none 0 0,.slice none 0 0] 75 (0,0))
 res:x.heap[w.heap.size]? = some (.cells #[.slice none 0 0,.slice none 0 0,.slice none 0 0] 75 (0,0))
 row:Km x w.heap.size cv l
 hX:w.heap.size<X
theorem lW.grow {w x y:World} {X:Nat} {cv:Value} {l:List Value} (h:lW w X x cv l) (hm:Grow x y):lW w X y cv l:=⟨gtr h.g hm,ai h.blk hm,ai h.res hm,bM h.row hm (λ_ _ e=>e),h.hX⟩
theorem lW.drew {w x:World} {X:Nat} {cv:Value} {l:List Value} (h:lW w X x cv l):lW w X x.drew cv l:=⟨Mv.drew h.g,h.blk,h.res,h.row,h.hX⟩
def zi (w:World) (X:Nat) (y:World) (cv:Value):Prop:=Grow w y/\y.heap[X]? = some (.cells #[cv,.slice none 0 0,.slice none 0 0] 75 (0,0))/\y.heap[w.heap.size]? = some (.cells #[.slice none 0 0,.slice none 0 0,.slice none 0 0] 75 (0,0))/\w.heap.size<X
theorem lW.app {w x y:World} {X:Nat} {cv:Value} {l:List Value} (h:lW w X x cv l) (hm:Mv (λb=>cv.ownBlock=some b) x y):zi w X y cv :=
 ⟨h.g.trans hm (λb e => .inr (h.row.lt b e).1),by rw[hm.block _ (lt_of_block h.blk) (λe=>eO h.row h.blk (by decide) e)];exact h.blk,by rw[hm.block _ (lt_of_block h.res) (λe=>eO h.row h.res (by decide) e)];exact h.res,h.hX⟩
theorem zi.grow {w x y:World} {X:Nat} {cv:Value} (h:zi w X x cv) (hm:Grow x y):zi w X y cv:=⟨gtr h.1 hm,ai h.2.1 hm,ai h.2.2.1 hm,h.2.2.2⟩
theorem zi.store {w y:World} {X:Nat} {cv v:Value} {l:List Value} (h:zi w X y cv) (hr:Km y w.heap.size v l):lW w X (y.setCell ⟨X,0,none⟩ v) v l:=by
 obtain⟨h1,h2,h3,h4⟩:=h;obtain⟨hb,hm⟩:=AO h2 v;exact⟨h1.trans hm (λb e => .inr (by omega)),hb,by rw[hm.block _ (lt_of_block h3) (λe=>by omega)];exact h3,bM hr hm (λg hg e=>by subst e;exact eO hr h2 (by decide) hg),h4⟩
def YN (X:Nat) (cv vv:Value) (fx:Int) (w:World) (cs:List Value):Nat->List Value->World->Prop
 |0,[v],_=>v = .pointer (some ⟨X,0,none⟩)
 |1,[v],_=>v=cv
 |2,[v],_=>v=vv
 |3,[v],_=>v = .int .i64 fx
 |4,[v],_=>∃ a n c,v = .slice a n c
 |5,[v],x=>∃ g u,v = .slice (some ⟨g,0,none⟩) 1 1/\u.oneCell'=true/\ax 1 CJ x (.slice (some ⟨g,0,none⟩) 1 1) [u]
 |6,[v],x=>∃ a c u,v = .slice a (cs.length+1) c/\Km x w.heap.size (.slice a (cs.length+1) c) (cs ++ [u])/\zi w X x cv
 |7,[v],_=>v = .pointer (some ⟨X,0,none⟩)
 |8,_,x=>∃ DF u,lW w X x DF (cs ++ [u])
 |_,_,_=>True
section
variable {X:Nat} {cv vv:Value} {fx:Int} {w x y:World} {cs:List Value}
theorem YN.grow (h:Grow x y):∀ j l,YN X cv vv fx w cs j l x->YN X cv vv fx w cs j l y:=by
 intro j l hy;unfold YN at hy ⊢;split <;> first
  |(obtain⟨g,u,h1,h2,h3⟩:=hy;exact⟨g,u,h1,h2,h3.later h⟩)
  |(obtain⟨a,c,u,h1,h2,h3⟩:=hy;exact⟨a,c,u,h1,bM h2 h (λ_ _ e=>e),h3.grow h⟩)
  |(obtain⟨a,c,h1⟩:=hy;exact⟨a,c,h1.grow h⟩)
  |exact hy
  |trivial
theorem YN.keep:∀ j l,¬ j=4->¬ j=5->¬ j=6->¬ j=8->YN X cv vv fx w cs j l x->YN X cv vv fx w cs j l y:=by
 intro j l h4 h5 h6 h8 hy;unfold YN at hy ⊢;split <;> first
  |exact absurd rfl h4
  |exact absurd rfl h5
  |exact absurd rfl h6
  |exact absurd rfl h8
  |exact hy
  |trivial
end
def wE (l:List aA):Int:=if gN l then 0 else 3
theorem YT (v:Value) (l:List aA) (w:World) (h:ax 3 aA.cells w v l) :
 Calls Tryz.prog 25 #[v,.slice none 0 0] w λe w'=>∃ a1 n1 c1 a2 n2 c2 a3 n3 c3,e = .returned (.tuple #[.agg #[.slice a1 n1 c1,.slice a2 n2 c2,.slice a3 n3 c3],.int .i64 (wE l)])/\Grow w w':=by
 obtain⟨va,vc,rfl,oC,hvl⟩:=h.form;have HR:=ł h;have ny:=ł (λ(y:World) (hy:Grow w y)=>Xc _ l y (h.later hy));have qZ:=ł (heap_alloc_new w (.cells #[.slice none 0 0,.slice none 0 0,.slice none 0 0] 75));have bg:=ł (show Grow w (w.alloc (.cells #[.slice none 0 0,.slice none 0 0,.slice none 0 0] 75))from(Mv.refl _ w).alloc _);clear h;cases hval:gN l with
 |false =>
  have HE:=ł (show wE l=3 from by simp[wE,hval]);rw[hval]at ny;clear hval
  go_enter Tryz.func25,Tryz.ntmps25
  go_wp2_with fail;generalize w.alloc (.cells #[.slice none 0 0,.slice none 0 0,.slice none 0 0] 75)=w1 at *;refine(ny.out _ bg.out).mono ?_;rintro e w2 ⟨rfl,hg⟩;have HG2:=ł (gtr bg.out hg);have hb:=ai qZ.out hg;obtain⟨hs,hm⟩:=Cz hb (.slice none 0 0) (.slice none 0 0) (.slice none 0 0);obtain⟨r0,r1,r2⟩:=di hb;have rt:=aD hb;have HS:=ł hs;have aQ:=ł (show Grow w _ from Mv.trans HG2.out hm (λb e => .inr (by omega)));clear hb hs hm hg;go_wp2_with fail;obtain⟨t0,t1,t2⟩:=di HS.out;exact bodyPost_ret (v := .tuple #[.agg #[.slice none 0 0,.slice none 0 0,.slice none 0 0],.int .i64 3]) (by simp[results,Tryz.results25,go_sem,t0,t1,t2]) rfl ⟨_,_,_,_,_,_,_,_,_,by rw[HE.out],aQ.out⟩
 |true =>
  have HE:=ł (show wE l=0 from by simp[wE,hval]);have adi:l.length<=32:=by simp[gN]at hval;exact hval.1
  have dP:=ł (show ∀ x∈l,0<=sF x/\sF x<=16 from λx hx=>by
   simp only[gN,Bool.and_eq_true,List.all_eq_true]at hval;have:=hval.2 x hx;simp only[aA.okB,mE]at this;unfold sF;split
   · omega
   · split at this
     · simp at this;omega
     · split at this
       · simp at this;omega
       · cases this)
  rw[hval]at ny;clear hval
  go_enter Tryz.func25,Tryz.ntmps25
  go_wp2_with fail;generalize w.alloc (.cells #[.slice none 0 0,.slice none 0 0,.slice none 0 0] 75)=w1 at *;have hs1:=bg.out.size;have hs0:=lt_of_block qZ.out;refine(ny.out _ bg.out).mono ?_;rintro e w2 ⟨rfl,hg⟩;have HG2:=ł (gtr bg.out hg);have HR2:=ł (ai qZ.out hg);have hs2:=hg.size;clear hg;go_wp2_with fail;refine(Xe _).mono ?_;rintro e w3 ⟨rfl,hg⟩;have hs3:=hg.size;have mX:=ł (show lW w w3.heap.size (w3.alloc (.cells #[.slice none 0 0,.slice none 0 0,.slice none 0 0] 75)) (.slice none 0 0) []from⟨(gtr HG2.out hg).alloc _,heap_alloc_new w3 _,aO (ai HR2.out hg) _,World.ownsRow_nil _ _ _ _,by omega⟩);clear hg;go_wp2_with fail;generalize w3.alloc (.cells #[.slice none 0 0,.slice none 0 0,.slice none 0 0] 75)=w4 at *;generalize w3.heap.size=X at *;clear hs0 hs1 hs2 hs3 ny qZ bg HG2 HR2
  go_loopw [22] (λt wr=>∃ (k:Nat) (cv:Value) (cs:List Value),t = .int .i64 k/\k<=l.length/\cs.length=k/\lW w X wr cv cs) (λt _=>l.length - (intOf t).toNat)
  case atStart=>exact⟨0,_,[],rfl,Nat.zero_le _,rfl,mX.out⟩
  obtain⟨k,cv,cs,rfl,hk,hcs,hst⟩:=hrel;have q8:=ł hcs;obtain⟨na,nc,rV⟩:=gy hst.row;subst rV;have jA:=ł hst;have hcl:cs.length<=32:=by omega
  clear hst hcs mX;by_cases hlt:k<l.length
  · obtain⟨b,off,cap',e,_,hcc⟩:=(HR.out.later jA.out.g).at hlt;simp only[Value.slice.injEq,true_and]at e;obtain⟨rfl,rfl⟩:=e;have c0:=hcc 0 _ rfl;have c1:=hcc 1 _ rfl;have c2:=hcc 2 _ rfl;have mH:=ł (dP.out l[k] (List.getElem_mem hlt));generalize l[k]=x at *;obtain⟨kK,vk,vn⟩:=x;simp only[Nat.add_zero]at c0 c1 c2;have hbl:b<wr.heap.size:=World.block_lt_of_cell? wr _ c0;have aY:=ł (jA.out.grow ((Mv.refl _ wr).alloc (.cells #[.string kK,.int .u8 vk,.int .i64 vn] 54)));have oN:=ł (heap_alloc_new wr (.cells #[.string kK,.int .u8 vk,.int .i64 vn] 54));have hXl:X≠wr.heap.size:=λe=>by have:=lt_of_block jA.out.blk;omega
    have yC:=ł (λg hg=>(jA.out.row.lt g hg).2);have zb:wr.heap.size<(wr.alloc (.cells #[.string kK,.int .u8 vk,.int .i64 vn] 54)).heap.size:=by simp
    clear hcc;go_upto_region 9 with fail;clear c0 c1 c2 hbl;generalize wr.alloc (.cells #[.string kK,.int .u8 vk,.int .i64 vn] 54)=w5 at *;have HST:=aY;have lT:=ł (λ(x:World) (hx:Mv (λb=>b=X\/Value.ownBlock (.slice na cs.length nc)=some b) w5.drew x)=>(show x.heap[wr.heap.size]? = _ from(hx.block wr.heap.size zb (λe=>by rcases e with e|e;exact hXl e.symm;have:=yC.out _ e;omega)).trans oN.out));refine rq (by kernel_rfl) 36 [some 26,some 27,some 28,some 29,some 30,some 31,some 32,some 33,none] [[],[0],[],[2],[3,3],[4],[1,5,3],[0,1,2,3,4,5,6],[7,6,6,0,1,2,3,4,5,6]] [[],[0],[],[2],[3],[4],[1,5],[],[7,6]] [[0],[1],[2],[3],[4],[5],[6],[7],[8]] [[],[],[],[],[6],[6],[8],[],[]] rfl (by kernel_rfl) (Mv (λb=>b=X\/Value.ownBlock (.slice na cs.length nc)=some b)) (λ_=>Mv.refl _ _) (λx y z h1 h2=>h1.trans h2 (λ_ e => .inl e)) (YN X (.slice na cs.length nc) (.agg #[.string kK,.int .u8 vk,.int .i64 vn]) (sF ⟨kK,vk,vn⟩) w cs) (λ_ x=>lW w X x (.slice na cs.length nc) cs) [[6]] ?z0 ?steps ?done
    case z0=>intro z hz;exact HST.out.drew
    case steps =>
     refine⟨?s0,?s1,?s2,?s3,?s4,?s5,?s6,?s7,?s8,trivial⟩
     case s0 =>
      intro vs x hx hY hZ;clear hY hZ;simp only[zR];go_simp;exact⟨Mv.refl _ _,by intros;assumption,rfl,by intros;assumption⟩
     case s1 =>
      intro vs x hx hY hZ;have h0:vs 0 = .pointer (some ⟨X,0,none⟩):=hY 0 (by simp) (by simp);obtain⟨k0,k1,k2⟩:=di (hZ 0 (by simp) (by simp)).blk;clear hY hZ;simp only[zR,h0];go_simp;exact⟨Mv.refl _ _,by intros;assumption,rfl,by intros;assumption⟩
     case s2 =>
      intro vs x hx hY hZ;obtain⟨k0,k1,k2⟩:=di (lT.out x hx);clear hY hZ;simp only[zR];go_simp;exact⟨Mv.refl _ _,by intros;assumption,rfl,by intros;assumption⟩
     case s3 =>
      intro vs x hx hY hZ;have h2:vs 2 = .agg #[.string kK,.int .u8 vk,.int .i64 vn]:=hY 2 (by simp) (by simp);have HC:=ł (Xd ⟨kK,vk,vn⟩ x);clear hY hZ;simp only[zR,h2];go_simp;refine HC.out.mono ?_;rintro e y ⟨rfl,hgr⟩;exact⟨_,rfl,hgr.mono (λ_ e=>e.elim),(by first|exact λh=>lW.grow h hgr|(intros;exact lW.grow (by assumption) hgr)),rfl,by intros;exact YN.grow hgr _ _ (by assumption)⟩
     case s4 =>
      intro vs x hx hY hZ;have h3:vs 3 = .int .i64 (sF ⟨kK,vk,vn⟩):=hY 3 (by simp) (by simp);obtain⟨i0,hi,hz0,hz1,hz2⟩:=info_parts Tryz.Qq;have hmk:=run_make (P:=Tryz.prog) x 51 3 i0 _ Tryz.underlying51 hi hz0 .i64 .i64 (sF ⟨kK,vk,vn⟩) (sF ⟨kK,vk,vn⟩) mH.out.1 (Int.le_refl _) (by rw[hz2];have:=mH.out.2;omega) (by have:=mH.out.2;omega);clear hY hZ hi hz0 hz1 hz2;generalize sF ⟨kK,vk,vn⟩=fx at *;simp only[zR,h3];go_simp;exact⟨(Mv.refl _ _).alloc _,(by first|exact λh=>lW.grow h ((Mv.refl _ _).alloc _)|(intros;exact lW.grow (by assumption) ((Mv.refl _ _).alloc _))),⟨_,_,_,rfl⟩,by intros;exact YN.grow ((Mv.refl _ _).alloc _) _ _ (by assumption)⟩
     case s5 =>
      intro vs x hx hY hZ;obtain⟨u4,v4,c4,(h4:vs 4=_)⟩:=hY 4 (by simp) (by simp);clear hY hZ;simp only[zR,h4];go_simp;exact⟨(Mv.refl _ _).alloc _,(by first|exact λh=>lW.grow h ((Mv.refl _ _).alloc _)|(intros;exact lW.grow (by assumption) ((Mv.refl _ _).alloc _))),⟨x.heap.size,.slice u4 v4 c4,rfl,rfl,ax.bN (n:=1) (f:=CJ) (l:=[.slice u4 v4 c4]) (λ_=>rfl) (heap_alloc_new x _) rfl (by simp)⟩,by intros;exact YN.grow ((Mv.refl _ _).alloc _) _ _ (by assumption)⟩
     case s6 =>
      intro vs x hx hY hZ;have h1:vs 1 = .slice na cs.length nc:=hY 1 (by simp) (by simp);obtain⟨g5,u5,(h5:vs 5=_),ho,hrow⟩:=hY 5 (by simp) (by simp);have hst:=hZ 0 (by simp) (by simp);obtain⟨a',c',w2,⟨hok,hv,hw⟩,hrow2,bK,hown2⟩:=oZ Tryz.YS (f:=CJ) (λ_=>rfl) _ _ cs [u5] _ x hst.row hrow (by intro z hz;simp at hz;subst hz;intro u hu;simp[CJ]at hu;subst hu;exact ho) hst.g.size (by simp;omega);have HJ:=ł (hst.app bK);have HR2:=ł hrow2;have dE:=ł bK;clear hY hZ hst hrow hrow2 bK hown2;simp only[List.length_cons,List.length_nil,Nat.zero_add]at hok hv hw;simp only[zR,h1,h5];go_simp;exact⟨dE.out.mono (λ_ e => .inl (.inr e)),⟨a',c',u5,rfl,HR2.out,HJ.out⟩,λj l=>by intros;refine YN.keep j l ?_ ?_ ?_ ?_ (by assumption) <;> (intro e;subst e;first|contradiction|simp_all)⟩
     case s7 =>
      intro vs x hx hY hZ;clear hY hZ;simp only[zR];go_simp;exact⟨Mv.refl _ _,rfl,by intros;assumption⟩
     case s8 =>
      intro vs x hx hY hZ;have h7:vs 7 = .pointer (some ⟨X,0,none⟩):=hY 7 (by simp) (by simp);obtain⟨a',c',u6,(h6:vs 6=_),hrow,hj⟩:=hY 6 (by simp) (by simp);have HS:=ł (hj.store hrow);obtain⟨k0,k1,k2⟩:=di hj.2.1;have zt:=aD hj.2.1;have dE:=ł (AO hj.2.1 (vs 6));rw[h6]at dE;clear hY hZ hrow hj;simp only[zR,h7,h6];go_simp;exact⟨dE.out.2.mono (λ_ e => .inl (.inl e)),⟨_,u6,HS.out⟩,λj l=>by intros;refine YN.keep j l ?_ ?_ ?_ ?_ (by assumption) <;> (intro e;subst e;first|contradiction|simp_all)⟩
    case done =>
    intro vs wy hxy hY _;obtain⟨DF,u6,hst'⟩:=hY 8 (by decide) rfl;simp only[List.length_cons,List.length_nil,Nat.zero_add,Nat.reduceAdd];rw[show List.range 9=[0,1,2,3,4,5,6,7,8]from rfl];simp only[zR];clear hY;have oF:=ł hst';clear hst' hxy lT HST aY oN yC;go_wp2_with fail
    go_roundw
    case rel=>exact⟨k+1,_,cs ++ [u6],by go_num,by omega,by simp[q8.out],oF.out⟩
    case measure=>(simp[intOf] <;> omega)
  · obtain⟨k0,k1,k2⟩:=di jA.out.blk;obtain⟨m0,m1,m2⟩:=di jA.out.res;have hl1:=lt_of_block jA.out.blk;have hl2:=lt_of_block jA.out.res;have zt:=aD jA.out.res;obtain⟨hs,hm⟩:=Cz jA.out.res (.slice na cs.length nc) (.slice none 0 0) (.slice none 0 0);have HS:=ł hs;have aQ:=ł (show Grow w _ from Mv.trans jA.out.g hm (λb e => .inr (by omega)));clear hs hm jA;go_wp2_with fail;obtain⟨t0,t1,t2⟩:=di HS.out;exact bodyPost_ret (v := .tuple #[.agg #[.slice na cs.length nc,.slice none 0 0,.slice none 0 0],.int .i64 0]) (by simp[results,Tryz.results25,go_sem,t0,t1,t2]) rfl ⟨_,_,_,_,_,_,_,_,_,by rw[HE.out],aQ.out⟩
def nR:List ByteArray->List aA->Bool
 |_,[]=>false
 |seen,v :: r=>seen.any (λs=>s == v.name) || nR (seen ++ [v.name]) r
def jX (l:List aA):Int:=if gN l then(if nR [] l then 22 else 0)else 3
def ZW (w:World) (l:List aA) (e:Ending) (w':World):Prop:=∃ sv,e = .returned (.tuple #[.agg #[sv,.int .i64 (if jX l=0 then frameC l else iI).cells,.int .i64 (if jX l=0 then frameC l else iI).stacks],.int .i64 (jX l)])/\fV w' sv (if jX l=0 then frameC l else iI)/\Grow w w'
def Kn:Value := .agg #[.int .u8 57,.int .i64 0,.string ⟨#[]⟩,.slice none 0 0]
def uL:Prop:=∀ (v:Value) (l:List aA) (w:World),ax 3 aA.cells w v l->Calls Tryz.prog 8 #[v,Kn] w (ZW w l)
def F5 (w:World) (n:Int) (e:Ending) (w':World):Prop:=e = .returned (.int .i64 n)/\Grow w w'
def qw (f:az) (x:Tree × aA):Bool := !(x.2.kind == 2) || ((au f x.1.name 2).getD noSlot).len == x.2.len
def sJ (f:az) (procs:List aU) (s:ByteArray) (l:List Tree):Int :=
 let ps:=((vU procs s).map aU.params).getD []
 if l.length≠ps.length then 7 else if(l.zip ps).all (qw f)then jX ps else 7
theorem Eu (procs:List ak) (s:ByteArray):((vU (procs.map ak.d) s).map aU.params).getD []=((dY procs s).getD gz).params:=by
 rw[Pz];cases dY procs s <;> rfl
theorem Nz {α β:Type} (a:List α) (b:List β) (i:Nat) (h:a.length=b.length) (hi:i<a.length):(a.zip b).take (i+1)=(a.zip b).take i ++ [(a[i],b[i]'(by omega))]:=by
 rw[List.take_succ_eq_append_getElem (by simp;omega)];simp
theorem Yb (hof:uL) (sv pv:Value) (f:az) (procs:List ak) (k n:Int) (s:ByteArray) (kv:Value) (l:List ae) (w:World) (hf:fV w sv f) (hp:lC w pv procs) (hx:aS w (.mk k n s kv l)) :
 Calls Tryz.prog 80 #[.agg #[sv,.int .i64 f.cells,.int .i64 f.stacks,pv],ae.val (.mk k n s kv l)] w (F5 w (sJ f (procs.map ak.d) s (ae.ts l))):=by
 obtain⟨fa,fc,rfl,hfc,hfl⟩:=hf.row.form;obtain⟨pa,pc,rfl,hpc,hpl⟩:=hp.row.form;obtain⟨ka,kc,rfl,hkc,hkl⟩:=hx.form;have Uo:=ł (show sJ f (procs.map ak.d) s (ae.ts l)=if l.length≠((dY procs s).getD gz).params.length then 7 else if((ae.ts l).zip ((dY procs s).getD gz).params).all (qw f)then jX ((dY procs s).getD gz).params else 7 from by
  unfold sJ;rw[Eu,ae.bT])
 have tL:=ł (λ(y:World) (hy:Grow w y)=>Jo (.slice pa procs.length pc) procs s y (hp.later hy));have wF:=IJ hp s;generalize (dY procs s).getD gz=p at *;generalize (dY procs s).isSome=found at *;obtain⟨ps,params,qv,body⟩:=p;obtain⟨qa,qc,rfl,hqc,pK⟩:=wF.form;have bY:=ł wF.params;obtain⟨bk,bn,bs,LY,bl⟩:=body;obtain⟨ba,bc,rfl,-,-⟩:=wF.body.form;simp only[ak.val]at tL;have HF:=ł hf;have ll:=ł hx;obtain⟨vw,aJ,HG2⟩:=a2 w (.cells #[.slice fa f.slots.length fc,.int .i64 f.cells,.int .i64 f.stacks,.slice pa procs.length pc] 85) (.cells #[.int .u8 k,.int .i64 n,.string s,.slice ka l.length kc] 26);clear hf hp hx wF;simp only[ae.val]
 go_enter Tryz.func80,Tryz.ntmps80
 go_wp2_with fail;generalize ((w.alloc (.cells #[.slice fa f.slots.length fc,.int .i64 f.cells,.int .i64 f.stacks,.slice pa procs.length pc] 85)).alloc (.cells #[.int .u8 k,.int .i64 n,.string s,.slice ka l.length kc] 26))=w2 at *;refine(tL.out _ HG2.out).mono ?_;rintro e w3 ⟨rfl,hg⟩;have aG:=ł (gtr HG2.out hg);have hub:=ai vw.out hg;have hnb:=ai aJ.out hg;have hpb:=heap_alloc_new w3 (.cells #[.string ps,.slice qa params.length qc,.int .u8 bk,.int .i64 bn,.string bs,.slice ba bl.length bc] 35);have HU4:=ł (aO hub (.cells #[.string ps,.slice qa params.length qc,.int .u8 bk,.int .i64 bn,.string bs,.slice ba bl.length bc] 35));have pO:=ł (aO hnb (.cells #[.string ps,.slice qa params.length qc,.int .u8 bk,.int .i64 bn,.string bs,.slice ba bl.length bc] 35));have D8:=ł hpb;have aN:=ł (gtr aG.out ((Mv.refl _ w3).alloc (.cells #[.string ps,.slice qa params.length qc,.int .u8 bk,.int .i64 bn,.string bs,.slice ba bl.length bc] 35)));obtain⟨⟨n0,n1⟩,n2,n3⟩:=aF hnb;have hln:=lt_of_block hnb;clear hub hnb hpb hg vw aJ tL;by_cases hll:l.length=params.length
 · have hne:((l.length:Int) != params.length)=false:=by simp[hll]
   have RF:=ł (show sJ f (procs.map ak.d) s (ae.ts l)=if((ae.ts l).zip params).all (qw f)then jX params else 7 from by rw[Uo.out,if_neg (by simp;exact hll)]);have Uq:=ł hll;clear hll;go_wp2_with fail;generalize w3.alloc (.cells #[.string ps,.slice qa params.length qc,.int .u8 bk,.int .i64 bn,.string bs,.slice ba bl.length bc] 35)=w4 at *;generalize w3.heap.size=PX at *;clear n0 n1 n2 n3 hln hne;have hpx:=lt_of_block D8.out
   go_loopw [31] (λt wr=>∃ i:Nat,t = .int .i64 i/\i<=params.length/\Grow w4 wr/\(((ae.ts l).zip params).take i).all (qw f)=true) (λt _=>params.length - (intOf t).toNat)
   case atStart=>exact⟨0,rfl,Nat.zero_le _,Mv.refl _ _,rfl⟩
   obtain⟨i,rfl,hi,hg,hall⟩:=hrel;have HG:=ł hg;have HA:=ł hall;clear hg hall;by_cases hlt:i<params.length
   · have hil:i<l.length:=by have:=Uq.out;omega
     obtain⟨b,off,cap',e,_,hcc⟩:=(bY.out.later (gtr aN.out HG.out)).at hlt;simp only[Value.slice.injEq,true_and]at e;obtain⟨rfl,rfl⟩:=e;have c0:=hcc 0 _ rfl;have c1:=hcc 1 _ rfl;have c2:=hcc 2 _ rfl;obtain⟨kb,ko,qE,bF,-,-⟩:=ll.out.row.2.2.2.1.at (show 0<l.length by omega);simp only[Value.slice.injEq,true_and]at bF;obtain⟨rfl,rfl⟩:=bF;have dH:=dO ll.out i hil;have HT:=ł (show(((ae.ts l).zip params).take (i+1)).all (qw f)=qw f (l[i].t,params[i])from by
      rw[Nz (ae.ts l) params i (by rw[ae.bT];exact Uq.out) (by rw[ae.bT];exact hil),List.all_append,HA.out,ae.gm l i hil];simp)
     have G7:=ł (λ(h:qw f (l[i].t,params[i])=false)=>show((ae.ts l).zip params).all (qw f)=false from by
      apply Bool.eq_false_iff.2;intro ha;have hz:i<((ae.ts l).zip params).length:=by simp[ae.bT];omega
      have:=List.all_eq_true.1 ha _ (List.getElem_mem hz);rw[List.getElem_zip,ae.gm l i hil,h]at this;cases this)
     generalize l[i]=y at *;generalize params[i]=v at *;obtain⟨yk,yn,ys,yv,yl⟩:=y;obtain⟨kK,vk,vn⟩:=v;simp only[Nat.add_zero]at c0 c1 c2;have Ur:=ł (show qw f (ae.t (.mk yk yn ys yv yl),⟨kK,vk,vn⟩)=(!(vk == 2) || ((au f ys 2).getD noSlot).len == vn)from rfl);have hbl:b<wr.heap.size:=World.block_lt_of_cell? wr _ c0;have oN:=ł (heap_alloc_new wr (.cells #[.string kK,.int .u8 vk,.int .i64 vn] 54));have aT:=ł (HG.out.alloc (.cells #[.string kK,.int .u8 vk,.int .i64 vn] 54));clear hcc;by_cases hk2:vk=2
     · subst hk2;have oO:=ł dH;clear dH;go_upto_region 8 with fail;clear c0 c1 c2 hbl;generalize wr.alloc (.cells #[.string kK,.int .u8 2,.int .i64 vn] 54)=w5 at *;have bG:=ł (λ(y:World) (hy:Grow w5 y)=>And.intro (ai HU4.out (gtr aT.out hy)) (And.intro (ai pO.out (gtr aT.out hy)) (And.intro (oO.out.later (gtr aN.out (gtr aT.out hy))) (HF.out.later (gtr aN.out (gtr aT.out hy))))));refine wg 65 [some 40,some 41,some 42,some 43,some 44,some 45,some 46,some 47,some 48,some 39,some 49,some 50,some 9,none,some 10] [[],[0],[],[2],[],[3,4],[5],[6],[1,7],[8],[9],[9],[],[12,10],[11]] [] [.c (.pointer (some ⟨w.heap.size,0,none⟩)),.c (.agg #[.slice fa f.slots.length fc,.int .i64 f.cells,.int .i64 f.stacks]),.c (.pointer (some ⟨(w.heap.size+1),3,none⟩)),.c (.slice (some ⟨kb,ko,none⟩) l.length kc),.c (.int .i64 i),.c (.pointer (some ⟨kb,ko+i * 4,none⟩)),.c (.pointer (some ⟨kb,ko+i * 4+2,none⟩)),.c (.string ys),.c (.tuple #[((au f ys 2).getD noSlot).val,.bool (au f ys 2).isSome]),.c (.tuple #[((au f ys 2).getD noSlot).val,.bool (au f ys 2).isSome]),.c (((au f ys 2).getD noSlot).val),.c (.bool (au f ys 2).isSome),.al 13 10 #[.string ⟨#[]⟩,.int .u8 0,.int .i64 0,.int .i64 0] 81,.st 12,.c (.bool (au f ys 2).isSome)] trivial (cz rfl) ?steps ?done
       case steps =>
        refine⟨?s0,?s1,?s2,?s3,?s4,?s5,?s6,?s7,?s8,?s9,?s10,?s11,?s12,?s13,?s14,trivial⟩
        case s0|s2|s4|s6|s9|s10|s11|s14 =>
         refine oo (λvs x hP => ?_);simp only[zS];go_simp;exact gc
        case s1 =>
         refine ok bG (λvs x hG HX hP => ?_);obtain⟨⟨u0,u1⟩,u2,u3⟩:=aF HX.out.1;simp only[zS];go_simp;exact gc
        case s3 =>
         refine ok bG (λvs x hG HX hP => ?_);obtain⟨⟨n0,n1⟩,n2,n3⟩:=aF HX.out.2.1;simp only[zS];go_simp;exact gc
        case s5 =>
         refine ok bG (λvs x hG HX hP => ?_);have hbd:i<l.length:=hil;simp only[zS];go_simp;exact gc
        case s7 =>
         refine ok bG (λvs x hG HX hP => ?_);have d2:=HX.out.2.2.1.four.2.1;simp only[zS];go_simp;exact gc
        case s8 =>
         refine ok bG (λvs x hG HX hP => ?_);have HC:=ł (oV (.slice fa f.slots.length fc) f ys 2 x HX.out.2.2.2);simp only[zS];go_simp;refine(HC.out).mono ?_;rintro e y ⟨rfl,hg⟩;exact⟨_,rfl,bu hg rfl⟩
        case s12 =>
         refine oz (λvs x => ?_);simp only[zS];go_simp;exact⟨rfl,rfl⟩
        case s13 =>
         refine os (λvs x g hg hb hv => ?_);have h10:vs 10=_:=hv;obtain⟨c0,c1,c2,c3⟩:=dF hb;have zt:=aD hb;simp only[zS,hg,h10];go_simp;exact nW hb _ _ _ _
       case done =>
       intro vs w6 hE;have hG:=hE.grow;obtain⟨g12,a12,l12,m12,b12⟩:=hE.box 12;simp only[zS]at b12;simp only[zS,Nat.reduceAdd,a12];have yB:=ł b12;generalize hsl:((au f ys 2).getD noSlot)=sl at *;obtain⟨sl0,sl1,sl2,sl3⟩:=sl;simp only[bJ]at yB;have ng:=ł (show qw f (ae.t (.mk yk yn ys yv yl),⟨kK,2,vn⟩)=(sl2 == vn)from by rw[Ur.out];rfl);obtain⟨z0,z1,z2,z3⟩:=dF yB.out;obtain⟨v0,v1,v2⟩:=di (ai oN.out hG);have hlz:=lt_of_block yB.out;have hlv:=lt_of_block (ai oN.out hG);have dw:=ł (gtr aT.out hG);clear hE hG b12 hsl bG;by_cases hln:sl2=vn
       · have hnn:(sl2 != vn)=false:=by simp[hln]
         have HX:=ł (HT.out.trans (show qw f (ae.t (.mk yk yn ys yv yl),⟨kK,2,vn⟩)=true from by rw[ng.out];simp[hln]));clear hln G7 HT;go_wp2_with fail
         go_roundw
         case rel=>exact⟨i+1,by go_num,by omega,dw.out,HX.out⟩
         case measure=>(simp[intOf] <;> omega)
       · have hnn:(sl2 != vn)=true:=by simp[hln]
         have HX:=ł (show sJ f (procs.map ak.d) s (ae.ts l)=7 from by rw[RF.out,G7.out (by rw[ng.out];simp[hln])];simp);clear hln G7 HT;go_wp2_with fail;go_ret;exact⟨cB HX.out.symm,gtr aN.out dw.out⟩
     · have hnn:(vk != 2)=true:=by simp[hk2]
       have HX:=ł (HT.out.trans (show qw f (ae.t (.mk yk yn ys yv yl),⟨kK,vk,vn⟩)=true from by rw[Ur.out];simp[hk2]));clear hk2 G7 HT;go_wp2_with fail
       go_roundw
       case rel=>exact⟨i+1,by go_num,by omega,aT.out,HX.out⟩
       case measure=>(simp[intOf] <;> omega)
   · have HX:=ł (show sJ f (procs.map ak.d) s (ae.ts l)=jX params from by
      rw[RF.out];have:((ae.ts l).zip params).take i=(ae.ts l).zip params:=List.take_of_length_le (by simp[ae.bT];omega);rw[← this,HA.out];rfl)
     have Mt:=ai D8.out HG.out;obtain⟨⟨p0,p1,p2⟩,p3,p4,p5⟩:=dK Mt;have hlp:=lt_of_block Mt;have vB:=ł (hof (.slice qa params.length qc) params wr (bY.out.later (gtr aN.out HG.out)));have Us:=gtr aN.out HG.out;have bE:=ł Us;clear Mt Us;unfold Kn at vB;go_wp2_with fail;refine vB.out.mono ?_;rintro e w7 ⟨sv7,he7,RG,tZ⟩;obtain⟨a7,c7,hs7,-,-⟩:=RG.row.form;subst hs7;subst he7;have vC:=ł (gtr bE.out tZ);clear tZ RG vB p0 p1 p2 p3 p4 p5 hlp;generalize jX params=oe at *;generalize (if oe=0 then frameC params else iI)=fo at *;go_wp2_with fail;go_ret;exact⟨cB HX.out.symm,vC.out.alloc _⟩
 · have hne:((l.length:Int) != params.length)=true:=by simp;omega
   have HX:=ł (Uo.out.trans (if_pos hll));clear hll;go_wp2_with fail;go_ret;exact⟨cB HX.out.symm,aN.out⟩
end Go.Proofs.YtnobahchcongnaaGreat
