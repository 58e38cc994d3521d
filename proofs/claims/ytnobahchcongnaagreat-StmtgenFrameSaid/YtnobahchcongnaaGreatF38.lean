import Derived.Test.YtnobahchcongnaaGreatF27
set_option linter.unusedSimpArgs false
set_option linter.unusedVariables false
set_option maxRecDepth 100000
set_option maxHeartbeats 25600000
namespace Go.Proofs.YtnobahchcongnaaGreat
open Go.RowKit Go.Instr
attribute [local go_sem ↓] lu
theorem Tryz.Ze:(Tryz.prog.info? 81).map (λi=>(i.zero,i.size,i.bytes))=some (some (.agg #[.string ⟨#[]⟩,.int .u8 0,.int .i64 0,.int .i64 0]),4,40):=by kernel_rfl
theorem Tryz.JQ:Elem Tryz.prog 36 81 4 40:=Elem.of Tryz.underlying36 Tryz.Ze rfl (by decide) (by decide)
theorem JR {l:List dL} : ∀ x∈l,∀ u∈x.cells,u.oneCell'=true:=by
 intro x _ u hu;simp[dL.cells]at hu;rcases hu with rfl|rfl|rfl|rfl <;> rfl
abbrev Kb (w:World) (base:Nat) (v:Value) (l:List dL):Prop:=w.ownsRow base 81 4 v l.length (flat dL.cells l)
structure eY (wb:World) (F:Nat) (x:World) (sv:Value) (f:az):Prop where
 g:Grow wb x
 blk:x.heap[F]? = some (.cells #[sv,.int .i64 f.cells,.int .i64 f.stacks] 38 (0,0))
 row:Kb x wb.heap.size sv f.slots
 hF:wb.heap.size<=F
theorem eY.grow {wb x y:World} {F:Nat} {sv:Value} {f:az} (h:eY wb F x sv f) (hm:Grow x y):eY wb F y sv f:=⟨gtr h.g hm,ai h.blk hm,bM h.row hm (λ_ _ e=>e),h.hF⟩
theorem eY.drew {wb x:World} {F:Nat} {sv:Value} {f:az} (h:eY wb F x sv f):eY wb F x.drew sv f:=⟨Mv.drew h.g,h.blk,h.row,h.hF⟩
def zA (wb:World) (F:Nat) (y:World) (sv:Value) (f:az):Prop:=Grow wb y/\y.heap[F]? = some (.cells #[sv,.int .i64 f.cells,.int .i64 f.stacks] 38 (0,0))/\wb.heap.size<=F
theorem eY.app {wb x y:World} {F:Nat} {sv:Value} {f:az} (h:eY wb F x sv f) (hm:Mv (λb=>sv.ownBlock=some b) x y):zA wb F y sv f :=
 ⟨h.g.trans hm (λb e => .inr (h.row.lt b e).1),by rw[hm.block _ (lt_of_block h.blk) (λe=>eO h.row h.blk (by decide) e)];exact h.blk,h.hF⟩
theorem zA.grow {wb x y:World} {F:Nat} {sv:Value} {f:az} (h:zA wb F x sv f) (hm:Grow x y):zA wb F y sv f:=⟨gtr h.1 hm,ai h.2.1 hm,h.2.2⟩
theorem zA.store {wb y:World} {F:Nat} {sv v:Value} {f:az} {l:List dL} (h:zA wb F y sv f) (hr:Kb y wb.heap.size v l):eY wb F (y.setCell ⟨F,0,none⟩ v) v ⟨l,f.cells,f.stacks⟩:=by
 obtain⟨h1,h2,h4⟩:=h;obtain⟨hb,hm⟩:=AO h2 v;exact⟨h1.trans hm (λb e => .inr (by omega)),hb,bM hr hm (λg hg e=>by subst e;exact eO hr h2 (by decide) hg),h4⟩
theorem eY.set {wb x y:World} {F:Nat} {sv:Value} {f f':az} (h:eY wb F x sv f) (hm:Mv (λb=>b=F) x y) (hb:y.heap[F]? = some (.cells #[sv,.int .i64 f'.cells,.int .i64 f'.stacks] 38 (0,0))) (hs:f'.slots=f.slots):eY wb F y sv f' :=
 ⟨h.g.trans hm (λb e => .inr (by have:=h.hF;omega)),hb,by rw[hs];exact bM h.row hm (λg hg e=>by subst e;exact eO h.row h.blk (by decide) hg),h.hF⟩
theorem Qv {w:World} {X:Nat} {a b c:Value} {t:TypeId} (h:w.heap[X]? = some (.cells #[a,b,c] t (0,0))) (p:Value) :
 (w.setCell ⟨X,1,none⟩ p).heap[X]? = some (.cells #[a,p,c] t (0,0))/\Mv (λb=>b=X) w (w.setCell ⟨X,1,none⟩ p) :=
 ⟨by have h1:=block_setCell (p:=⟨X,1,none⟩) h rfl p;simpa using h1,(Mv.refl (λb=>b=X) w).setCell (.inl rfl) _⟩
theorem ZE {w:World} {X:Nat} {a b c:Value} {t:TypeId} (h:w.heap[X]? = some (.cells #[a,b,c] t (0,0))) (p:Value) :
 (w.setCell ⟨X,2,none⟩ p).heap[X]? = some (.cells #[a,b,p] t (0,0))/\Mv (λb=>b=X) w (w.setCell ⟨X,2,none⟩ p) :=
 ⟨by have h1:=block_setCell (p:=⟨X,2,none⟩) h rfl p;simpa using h1,(Mv.refl (λb=>b=X) w).setCell (.inl rfl) _⟩
theorem Qw {w:World} {X:Nat} {a b c d:Value} {t:TypeId} (h:w.heap[X]? = some (.cells #[a,b,c,d] t (0,0))) (p:Value) :
 (w.setCell ⟨X,3,none⟩ p).heap[X]? = some (.cells #[a,b,c,p] t (0,0))/\Mv (λb=>b=X) w (w.setCell ⟨X,3,none⟩ p) :=
 ⟨by have h1:=block_setCell (p:=⟨X,3,none⟩) h rfl p;simpa using h1,(Mv.refl (λb=>b=X) w).setCell (.inl rfl) _⟩
def YA (F:Nat) (sv Bv:Value) (sl:dL) (wb:World) (f:az) (cc ss:Int):Nat->List Value->World->Prop
 |0,[v],_=>v = .pointer (some ⟨F,0,none⟩)
 |1,[v],_=>v = .pointer (some ⟨F,0,none⟩)
 |2,[v],_=>v = .pointer (some ⟨F,0,none⟩)
 |3,[v],_=>v = .pointer (some ⟨F,0,none⟩)
 |4,[v],_=>v=sv
 |5,[v],_=>v=Bv
 |6,[v],x=>∃ g,v = .slice (some ⟨g,0,none⟩) 1 1/\ax 4 dL.cells x (.slice (some ⟨g,0,none⟩) 1 1) [sl]
 |7,[v],x=>∃ a c,v = .slice a (f.slots.length+1) c/\Kb x wb.heap.size (.slice a (f.slots.length+1) c) (f.slots ++ [sl])/\zA wb F x sv ⟨f.slots,cc,ss⟩
 |8,[v],_=>v = .pointer (some ⟨F,0,none⟩)
 |9,[v],_=>v = .pointer (some ⟨F,0,none⟩)
 |10,_,x=>∃ Hl,eY wb F x Hl ⟨f.slots ++ [sl],cc,ss⟩
 |_,_,_=>True
section
variable {F:Nat} {sv Bv:Value} {sl:dL} {wb x y:World} {f:az} {cc ss:Int}
theorem YA.grow (h:Grow x y):∀ j l,YA F sv Bv sl wb f cc ss j l x->YA F sv Bv sl wb f cc ss j l y:=by
 intro j l hy;unfold YA at hy ⊢;split <;> first
  |(obtain⟨g,h1,h3⟩:=hy;exact⟨g,h1,h3.later h⟩)
  |(obtain⟨a,c,h1,h2,h3⟩:=hy;exact⟨a,c,h1,bM h2 h (λ_ _ e=>e),h3.grow h⟩)
  |(obtain⟨a,h1⟩:=hy;exact⟨a,h1.grow h⟩)
  |exact hy
  |trivial
theorem YA.keep:∀ j l,¬ j=6->¬ j=7->¬ j=10->YA F sv Bv sl wb f cc ss j l x->YA F sv Bv sl wb f cc ss j l y:=by
 intro j l h6 h7 h10 hy;unfold YA at hy ⊢;split <;> first
  |exact absurd rfl h6
  |exact absurd rfl h7
  |exact absurd rfl h10
  |exact hy
  |trivial
end
def ZY (wb:World) (F:Nat) (w:World) (sv:Value) (f:az) (e:Ending) (w':World):Prop:=e = .returned (.tuple #[])/\∃ Ai,eY wb F w' Ai f/\Mv (λb=>b=F\/sv.ownBlock=some b) w w'
theorem JS (wb:World) (F:Nat) (w:World) (sv:Value) (f:az) (v:aA) (hst:eY wb F w sv f) (hb:f.slots.length<=1000/\(0<=f.cells/\f.cells<=100000)/\(0<=f.stacks/\f.stacks<=100000)/\(0<=v.len/\v.len<=100000)) :
 Calls Tryz.prog 27 #[.pointer (some ⟨F,0,none⟩),v.val] w (ZY wb F w sv (gL f v)):=by
 obtain⟨s,k,n⟩:=v;obtain⟨sa,sc,hsv⟩:=gy hst.row;subst hsv;obtain⟨hs1,⟨hc1,hc2⟩,⟨ht1,ht2⟩,hn1,hn2⟩:=hb;simp only at hn1 hn2;have jA:=ł (hst.grow ((Mv.refl _ w).alloc (.cells #[.string s,.int .u8 k,.int .i64 n] 54)));have oN:=ł (heap_alloc_new w (.cells #[.string s,.int .u8 k,.int .i64 n] 54));have hFw:=lt_of_block hst.blk;have HOW:=ł (λg hg=>(hst.row.lt g hg).2);have GQ:=ł (show Mv (λb=>b=F\/Value.ownBlock (.slice sa f.slots.length sc)=some b) w (w.alloc (.cells #[.string s,.int .u8 k,.int .i64 n] 54))from(Mv.refl _ w).alloc _);have zB:=ł (show gL f ⟨s,k,n⟩=if k=3 then⟨f.slots ++ [⟨s,k,n,f.stacks+1⟩],f.cells,f.stacks+1⟩else if k=2 then⟨f.slots ++ [⟨s,k,n,f.cells⟩],f.cells+n,f.stacks⟩else⟨f.slots ++ [⟨s,k,n,f.cells⟩],f.cells+1,f.stacks⟩from rfl);clear hst
 go_enter Tryz.func27,Tryz.ntmps27
 go_upto_region 1 with fail;have hlw:w.heap.size<(w.alloc (.cells #[.string s,.int .u8 k,.int .i64 n] 54)).heap.size:=by simp
 generalize w.alloc (.cells #[.string s,.int .u8 k,.int .i64 n] 54)=w1 at *;have HK:=ł (λ(y:World) (hy:Grow w1 y)=>And.intro (ai jA.out.blk hy) (ai oN.out hy));refine wg 60 [some 5,some 6,some 7,some 8,some 9,some 10,some 11,some 12,some 13,some 14,some 15,some 4,none] [[],[0],[],[2],[],[4],[],[6],[7],[8],[1,3,5,9],[],[11,10]] [] [.c (.pointer (some ⟨w.heap.size,0,none⟩)),.c (.string s),.c (.pointer (some ⟨w.heap.size,1,none⟩)),.c (.int .u8 k),.c (.pointer (some ⟨w.heap.size,2,none⟩)),.c (.int .i64 n),.c (.pointer (some ⟨F,0,none⟩)),.c (.pointer (some ⟨F,0,none⟩)),.c (.pointer (some ⟨F,1,none⟩)),.c (.int .i64 f.cells),.c (.agg #[.string s,.int .u8 k,.int .i64 n,.int .i64 f.cells]),.al 12 10 #[.string ⟨#[]⟩,.int .u8 0,.int .i64 0,.int .i64 0] 81,.st 11] trivial (cz rfl) ?steps ?done
 case steps =>
  refine⟨?s0,?s1,?s2,?s3,?s4,?s5,?s6,?s7,?s8,?s9,?s10,?s11,?s12,trivial⟩
  case s0|s2|s4|s6|s8|s10 =>
   refine oo (λvs x hP => ?_);simp only[zS];go_simp;exact gc
  case s1|s3|s5 =>
   refine ok HK (λvs x hG HX hP => ?_);obtain⟨v0,v1,v2⟩:=di HX.out.2;simp only[zS];go_simp;exact gc
  case s7|s9 =>
   refine ok HK (λvs x hG HX hP => ?_);obtain⟨f0,f1,f2⟩:=di HX.out.1;simp only[zS];go_simp;exact gc
  case s11 =>
   refine oz (λvs x => ?_);simp only[zS];go_simp;exact⟨rfl,rfl⟩
  case s12 =>
   refine os (λvs x g hg hb hv => ?_);have h10:vs 10=_:=hv;obtain⟨c0,c1,c2,c3⟩:=dF hb;have zt:=aD hb;simp only[zS,hg,h10];go_simp;exact nW hb _ _ _ _
 case done =>
 intro vs w2 hE;have hG:=hE.grow;obtain⟨g11,a11,l11,m11,b11⟩:=hE.box 11;simp only[zS]at b11;simp only[zS,Nat.reduceAdd,a11];have HB:=ł b11;simp only[bJ]at HB;have aY:=ł (jA.out.grow hG);have dE:=ł (GQ.out.trans (hG.mono (λ_ e=>e.elim) (O1:=λb=>b=F\/Value.ownBlock (.slice sa f.slots.length sc)=some b)) (λb e => .inl e));have R7:=ł (ai oN.out hG);have hgn:w1.heap.size<=g11:=l11;have Aj:g11≠F:=by omega
 have Hm:=ł (show Value.ownBlock (.slice sa f.slots.length sc)≠some g11 from λe=>by have:=HOW.out _ e;omega);clear hE hG b11 HK jA oN GQ;obtain⟨v0,v1,v2⟩:=di R7.out;have hlv:=lt_of_block R7.out;by_cases hk3:k=3
 · subst hk3;have HAD:=ł (zB.out.trans (if_pos rfl));obtain⟨f0,f1,f2⟩:=di aY.out.blk;have yH:=lt_of_block aY.out.blk;have zt:=aD aY.out.blk;obtain⟨hsb,hsm⟩:=ZE aY.out.blk (.int .i64 (f.stacks+1));have yX:=ł (aY.out.set (f':=⟨f.slots,f.cells,f.stacks+1⟩) hsm hsb rfl);have HB3:=ł (show(w2.setCell ⟨F,2,none⟩ (.int .i64 (f.stacks+1))).heap[g11]? = _ from(hsm.block g11 (lt_of_block HB.out) Aj).trans HB.out);have aal:=ł (dE.out.trans hsm (λb e => .inl (.inl e)));clear hsb hsm;go_upto_region 6 with fail;clear f0 f1 f2 yH zt v0 v1 v2 hlv;generalize w2.setCell ⟨F,2,none⟩ (.int .i64 (f.stacks+1))=w2' at *;obtain⟨f0,f1,f2⟩:=di yX.out.blk;have yH:=lt_of_block yX.out.blk;obtain⟨z0,z1,z2,z3⟩:=dF HB3.out;have zt:=aD HB3.out;have wU:=lt_of_block HB3.out;obtain⟨hsb,hsm⟩:=Qw HB3.out (.int .i64 (f.stacks+1));have dV:=ł hsb;have fA:=ł (show eY wb F (w2'.setCell ⟨g11,3,none⟩ (.int .i64 (f.stacks+1))) (.slice sa f.slots.length sc) ⟨f.slots,f.cells,f.stacks+1⟩from⟨yX.out.g.trans hsm (λb e => .inr (by have:=yX.out.hF;omega)),(hsm.block F yH (λe=>Aj e.symm)).trans yX.out.blk,bM yX.out.row hsm (λg hg e=>by subst e;exact Hm.out hg),yX.out.hF⟩);have wS:=ł (show Mv (λb=>b=F\/Value.ownBlock (.slice sa f.slots.length sc)=some b) w (w2'.setCell ⟨g11,3,none⟩ (.int .i64 (f.stacks+1)))from aal.out.trans hsm (λb e => .inr (by omega)));clear hsb hsm;go_upto_region 9 with fail;clear f0 f1 f2 yH z0 z1 z2 z3 zt wU;generalize w2'.setCell ⟨g11,3,none⟩ (.int .i64 (f.stacks+1))=w3 at *;have HST:=ł (show eY wb F w3 (.slice sa f.slots.length sc) ⟨f.slots,f.cells,f.stacks+1⟩from fA.out);have lT:=ł (λ(x:World) (hx:Mv (λb=>b=F\/Value.ownBlock (.slice sa f.slots.length sc)=some b) w3.drew x)=>(show x.heap[g11]? = _ from(hx.block g11 (lt_of_block dV.out) (λe=>by rcases e with e|e;exact Aj e;exact Hm.out e)).trans dV.out));refine rq (by kernel_rfl) 60 [some 50,some 51,some 52,some 53,some 54,some 55,some 56,some 57,some 58,some 59,none] [[],[],[1],[2],[3],[],[5],[4,6],[0,0,1,2,3,4,5,6,7],[8,0,1,2,3,4,5,6,7],[9,7,7,0,1,2,3,4,5,6,7]] [[],[],[1],[2],[3],[],[5],[4,6],[0],[8],[9,7]] [[0],[1],[2],[3],[4],[5],[6],[7],[8],[9],[10]] [[],[],[],[],[],[],[7],[10],[],[],[]] rfl (by kernel_rfl) (Mv (λb=>b=F\/Value.ownBlock (.slice sa f.slots.length sc)=some b)) (λ_=>Mv.refl _ _) (λx y z h1 h2=>h1.trans h2 (λ_ e => .inl e)) (YA F (.slice sa f.slots.length sc) (.agg #[.string s,.int .u8 3,.int .i64 n,.int .i64 (f.stacks+1)]) ⟨s,3,n,f.stacks+1⟩ wb f (f.cells) (f.stacks+1)) (λ_ x=>eY wb F x (.slice sa f.slots.length sc) ⟨f.slots,f.cells,f.stacks+1⟩) [[7]] ?z0 ?steps ?done
   case z0=>intro z hz;exact HST.out.drew
   case steps =>
    refine⟨?s0,?s1,?s2,?s3,?s4,?s5,?s6,?s7,?s8,?s9,?s10,trivial⟩
    case s0|s1 =>
     intro vs x hx hY hZ;clear hY hZ;simp only[zR];go_simp;exact⟨Mv.refl _ _,by intros;assumption,rfl,by intros;assumption⟩
    case s2 =>
     intro vs x hx hY hZ;have h1:vs 1 = .pointer (some ⟨F,0,none⟩):=hY 1 (by simp) (by simp);clear hY hZ;simp only[zR,h1];go_simp;exact⟨Mv.refl _ _,by intros;assumption,rfl,by intros;assumption⟩
    case s3 =>
     intro vs x hx hY hZ;have h2:vs 2 = .pointer (some ⟨F,0,none⟩):=hY 2 (by simp) (by simp);clear hY hZ;simp only[zR,h2];go_simp;exact⟨Mv.refl _ _,by intros;assumption,rfl,by intros;assumption⟩
    case s4 =>
     intro vs x hx hY hZ;have h3:vs 3 = .pointer (some ⟨F,0,none⟩):=hY 3 (by simp) (by simp);obtain⟨k0,k1,k2⟩:=di (hZ 0 (by simp) (by simp)).blk;clear hY hZ;simp only[zR,h3];go_simp;exact⟨Mv.refl _ _,by intros;assumption,rfl,by intros;assumption⟩
    case s5 =>
     intro vs x hx hY hZ;obtain⟨k0,k1,k2,k3⟩:=dF (lT.out x hx);clear hY hZ;simp only[zR];go_simp;exact⟨Mv.refl _ _,by intros;assumption,rfl,by intros;assumption⟩
    case s6 =>
     intro vs x hx hY hZ;have h5:vs 5 = .agg #[.string s,.int .u8 3,.int .i64 n,.int .i64 (f.stacks+1)]:=hY 5 (by simp) (by simp);clear hY hZ;simp only[zR,h5];go_simp;exact⟨(Mv.refl _ _).alloc _,(by first|exact λh=>eY.grow h ((Mv.refl _ _).alloc _)|(intros;exact eY.grow (by assumption) ((Mv.refl _ _).alloc _))),⟨x.heap.size,rfl,ax.bN (n:=4) (f:=dL.cells) (l:=[⟨s,3,n,f.stacks+1⟩]) (λ_=>rfl) (heap_alloc_new x _) rfl (by simp)⟩,by intros;exact YA.grow ((Mv.refl _ _).alloc _) _ _ (by assumption)⟩
    case s7 =>
     intro vs x hx hY hZ;have h4:vs 4 = .slice sa f.slots.length sc:=hY 4 (by simp) (by simp);obtain⟨g5,(h6:vs 6=_),hrow⟩:=hY 6 (by simp) (by simp);have hst:=hZ 0 (by simp) (by simp);obtain⟨a',c',w2',⟨hok,hv,hw⟩,hrow2,bK,hown2⟩:=oZ Tryz.JQ (f:=dL.cells) (λ_=>rfl) _ _ f.slots [⟨s,3,n,f.stacks+1⟩] _ x hst.row hrow JR hst.g.size (by simp;omega);have HJ:=ł (hst.app bK);have HR2:=ł hrow2;have dE:=ł bK;clear hY hZ hst hrow hrow2 bK hown2;simp only[List.length_cons,List.length_nil,Nat.zero_add]at hok hv hw;simp only[zR,h4,h6];go_simp;exact⟨dE.out.mono (λ_ e => .inl (.inr e)),⟨a',c',rfl,HR2.out,HJ.out⟩,λj l h1 h2 h3 h4 hy=>YA.keep j l (λe=>by subst e;exact h2 (by simp)) (λe=>h1 e) (λe=>by subst e;exact h3 (by simp)) hy⟩
    case s8 =>
     intro vs x hx hY hZ;have h0:vs 0 = .pointer (some ⟨F,0,none⟩):=hY 0 (by simp) (by simp);clear hY hZ;simp only[zR,h0];go_simp;exact⟨Mv.refl _ _,rfl,by intros;assumption⟩
    case s9 =>
     intro vs x hx hY hZ;have h8:vs 8 = .pointer (some ⟨F,0,none⟩):=hY 8 (by simp) (by simp);clear hY hZ;simp only[zR,h8];go_simp;exact⟨Mv.refl _ _,rfl,by intros;assumption⟩
    case s10 =>
     intro vs x hx hY hZ;have h9:vs 9 = .pointer (some ⟨F,0,none⟩):=hY 9 (by simp) (by simp);obtain⟨a',c',(h7:vs 7=_),hrow,hj⟩:=hY 7 (by simp) (by simp);have HS:=ł (hj.store hrow);obtain⟨k0,k1,k2⟩:=di hj.2.1;have zt:=aD hj.2.1;have dE:=ł (AO hj.2.1 (vs 7));rw[h7]at dE;clear hY hZ hrow hj;simp only[zR,h9,h7];go_simp;exact⟨dE.out.2.mono (λ_ e => .inl (.inl e)),⟨_,HS.out⟩,λj l h1 h2 h3 h4 hy=>YA.keep j l (λe=>by subst e;have h5:=h4 7 (by simp);simp at h5) (λe=>by subst e;exact h2 (by simp)) (λe=>h1 e) hy⟩
   case done =>
   intro vs wy hxy hY _;obtain⟨Hl,hst'⟩:=hY 10 (by decide) rfl;simp only[List.length_cons,List.length_nil,Nat.zero_add,Nat.reduceAdd];rw[show List.range 11=[0,1,2,3,4,5,6,7,8,9,10]from rfl];simp only[zR];clear hY;have aQ:=ł hst';have Ak:=ł (show Mv (λb=>b=F\/Value.ownBlock (.slice sa f.slots.length sc)=some b) w wy from wS.out.trans (Mv.trans (Mv.refl _ w3).drew hxy (λb e => .inl e)) (λb e => .inl e));clear hst' hxy lT HST;go_wp2_with fail
   go_end0
   exact⟨rfl,_,by rw[HAD.out];exact aQ.out,Ak.out⟩
 · by_cases hk2:k=2
   · subst hk2;have HAD:=ł (zB.out.trans ((if_neg (by decide)).trans (if_pos rfl)));obtain⟨f0,f1,f2⟩:=di aY.out.blk;have yH:=lt_of_block aY.out.blk;have zt:=aD aY.out.blk;clear hk3;go_upto_region 8 with fail;have hwr:IntKind.i64.wrap (f.cells+n)=f.cells+n:=IntWalk.i64_in _ (by omega);obtain⟨hsb,hsm⟩:=Qv aY.out.blk (.int .i64 (f.cells+n));have fA:=ł ((aY.out.set (f':=⟨f.slots,f.cells+n,f.stacks⟩) hsm hsb rfl).drew);have dV:=ł (show(w2.setCell ⟨F,1,none⟩ (.int .i64 (f.cells+n))).drew.heap[g11]? = _ from(hsm.block g11 (lt_of_block HB.out) Aj).trans HB.out);have wS:=ł (show Mv (λb=>b=F\/Value.ownBlock (.slice sa f.slots.length sc)=some b) w (w2.setCell ⟨F,1,none⟩ (.int .i64 (f.cells+n))).drew from(dE.out.trans hsm (λb e => .inl (.inl e))).drew);clear hsb hsm
     go_region
     go_upto_region 9 with fail;clear f0 f1 f2 yH zt v0 v1 v2 hlv hwr;generalize (w2.setCell ⟨F,1,none⟩ (.int .i64 (f.cells+n))).drew=w3 at *;have HST:=ł (show eY wb F w3 (.slice sa f.slots.length sc) ⟨f.slots,f.cells+n,f.stacks⟩from fA.out);have lT:=ł (λ(x:World) (hx:Mv (λb=>b=F\/Value.ownBlock (.slice sa f.slots.length sc)=some b) w3.drew x)=>(show x.heap[g11]? = _ from(hx.block g11 (lt_of_block dV.out) (λe=>by rcases e with e|e;exact Aj e;exact Hm.out e)).trans dV.out));refine rq (by kernel_rfl) 60 [some 50,some 51,some 52,some 53,some 54,some 55,some 56,some 57,some 58,some 59,none] [[],[],[1],[2],[3],[],[5],[4,6],[0,0,1,2,3,4,5,6,7],[8,0,1,2,3,4,5,6,7],[9,7,7,0,1,2,3,4,5,6,7]] [[],[],[1],[2],[3],[],[5],[4,6],[0],[8],[9,7]] [[0],[1],[2],[3],[4],[5],[6],[7],[8],[9],[10]] [[],[],[],[],[],[],[7],[10],[],[],[]] rfl (by kernel_rfl) (Mv (λb=>b=F\/Value.ownBlock (.slice sa f.slots.length sc)=some b)) (λ_=>Mv.refl _ _) (λx y z h1 h2=>h1.trans h2 (λ_ e => .inl e)) (YA F (.slice sa f.slots.length sc) (.agg #[.string s,.int .u8 2,.int .i64 n,.int .i64 (f.cells)]) ⟨s,2,n,f.cells⟩ wb f (f.cells+n) (f.stacks)) (λ_ x=>eY wb F x (.slice sa f.slots.length sc) ⟨f.slots,f.cells+n,f.stacks⟩) [[7]] ?z0 ?steps ?done
     case z0=>intro z hz;exact HST.out.drew
     case steps =>
      refine⟨?s0,?s1,?s2,?s3,?s4,?s5,?s6,?s7,?s8,?s9,?s10,trivial⟩
      case s0|s1 =>
       intro vs x hx hY hZ;clear hY hZ;simp only[zR];go_simp;exact⟨Mv.refl _ _,by intros;assumption,rfl,by intros;assumption⟩
      case s2 =>
       intro vs x hx hY hZ;have h1:vs 1 = .pointer (some ⟨F,0,none⟩):=hY 1 (by simp) (by simp);clear hY hZ;simp only[zR,h1];go_simp;exact⟨Mv.refl _ _,by intros;assumption,rfl,by intros;assumption⟩
      case s3 =>
       intro vs x hx hY hZ;have h2:vs 2 = .pointer (some ⟨F,0,none⟩):=hY 2 (by simp) (by simp);clear hY hZ;simp only[zR,h2];go_simp;exact⟨Mv.refl _ _,by intros;assumption,rfl,by intros;assumption⟩
      case s4 =>
       intro vs x hx hY hZ;have h3:vs 3 = .pointer (some ⟨F,0,none⟩):=hY 3 (by simp) (by simp);obtain⟨k0,k1,k2⟩:=di (hZ 0 (by simp) (by simp)).blk;clear hY hZ;simp only[zR,h3];go_simp;exact⟨Mv.refl _ _,by intros;assumption,rfl,by intros;assumption⟩
      case s5 =>
       intro vs x hx hY hZ;obtain⟨k0,k1,k2,k3⟩:=dF (lT.out x hx);clear hY hZ;simp only[zR];go_simp;exact⟨Mv.refl _ _,by intros;assumption,rfl,by intros;assumption⟩
      case s6 =>
       intro vs x hx hY hZ;have h5:vs 5 = .agg #[.string s,.int .u8 2,.int .i64 n,.int .i64 (f.cells)]:=hY 5 (by simp) (by simp);clear hY hZ;simp only[zR,h5];go_simp;exact⟨(Mv.refl _ _).alloc _,(by first|exact λh=>eY.grow h ((Mv.refl _ _).alloc _)|(intros;exact eY.grow (by assumption) ((Mv.refl _ _).alloc _))),⟨x.heap.size,rfl,ax.bN (n:=4) (f:=dL.cells) (l:=[⟨s,2,n,f.cells⟩]) (λ_=>rfl) (heap_alloc_new x _) rfl (by simp)⟩,by intros;exact YA.grow ((Mv.refl _ _).alloc _) _ _ (by assumption)⟩
      case s7 =>
       intro vs x hx hY hZ;have h4:vs 4 = .slice sa f.slots.length sc:=hY 4 (by simp) (by simp);obtain⟨g5,(h6:vs 6=_),hrow⟩:=hY 6 (by simp) (by simp);have hst:=hZ 0 (by simp) (by simp);obtain⟨a',c',w2',⟨hok,hv,hw⟩,hrow2,bK,hown2⟩:=oZ Tryz.JQ (f:=dL.cells) (λ_=>rfl) _ _ f.slots [⟨s,2,n,f.cells⟩] _ x hst.row hrow JR hst.g.size (by simp;omega);have HJ:=ł (hst.app bK);have HR2:=ł hrow2;have dE:=ł bK;clear hY hZ hst hrow hrow2 bK hown2;simp only[List.length_cons,List.length_nil,Nat.zero_add]at hok hv hw;simp only[zR,h4,h6];go_simp;exact⟨dE.out.mono (λ_ e => .inl (.inr e)),⟨a',c',rfl,HR2.out,HJ.out⟩,λj l h1 h2 h3 h4 hy=>YA.keep j l (λe=>by subst e;exact h2 (by simp)) (λe=>h1 e) (λe=>by subst e;exact h3 (by simp)) hy⟩
      case s8 =>
       intro vs x hx hY hZ;have h0:vs 0 = .pointer (some ⟨F,0,none⟩):=hY 0 (by simp) (by simp);clear hY hZ;simp only[zR,h0];go_simp;exact⟨Mv.refl _ _,rfl,by intros;assumption⟩
      case s9 =>
       intro vs x hx hY hZ;have h8:vs 8 = .pointer (some ⟨F,0,none⟩):=hY 8 (by simp) (by simp);clear hY hZ;simp only[zR,h8];go_simp;exact⟨Mv.refl _ _,rfl,by intros;assumption⟩
      case s10 =>
       intro vs x hx hY hZ;have h9:vs 9 = .pointer (some ⟨F,0,none⟩):=hY 9 (by simp) (by simp);obtain⟨a',c',(h7:vs 7=_),hrow,hj⟩:=hY 7 (by simp) (by simp);have HS:=ł (hj.store hrow);obtain⟨k0,k1,k2⟩:=di hj.2.1;have zt:=aD hj.2.1;have dE:=ł (AO hj.2.1 (vs 7));rw[h7]at dE;clear hY hZ hrow hj;simp only[zR,h9,h7];go_simp;exact⟨dE.out.2.mono (λ_ e => .inl (.inl e)),⟨_,HS.out⟩,λj l h1 h2 h3 h4 hy=>YA.keep j l (λe=>by subst e;have h5:=h4 7 (by simp);simp at h5) (λe=>by subst e;exact h2 (by simp)) (λe=>h1 e) hy⟩
     case done =>
     intro vs wy hxy hY _;obtain⟨Hl,hst'⟩:=hY 10 (by decide) rfl;simp only[List.length_cons,List.length_nil,Nat.zero_add,Nat.reduceAdd];rw[show List.range 11=[0,1,2,3,4,5,6,7,8,9,10]from rfl];simp only[zR];clear hY;have aQ:=ł hst';have Ak:=ł (show Mv (λb=>b=F\/Value.ownBlock (.slice sa f.slots.length sc)=some b) w wy from wS.out.trans (Mv.trans (Mv.refl _ w3).drew hxy (λb e => .inl e)) (λb e => .inl e));clear hst' hxy lT HST;go_wp2_with fail
     go_end0
     exact⟨rfl,_,by rw[HAD.out];exact aQ.out,Ak.out⟩
   · have HAD:=ł (zB.out.trans ((if_neg hk3).trans (if_neg hk2)));have e3:(k == 3)=false:=by simpa using hk3
     have e2:(k == 2)=false:=by simpa using hk2
     obtain⟨f0,f1,f2⟩:=di aY.out.blk;have yH:=lt_of_block aY.out.blk;have zt:=aD aY.out.blk;obtain⟨hsb,hsm⟩:=Qv aY.out.blk (.int .i64 (f.cells+1));have fA:=ł (aY.out.set (f':=⟨f.slots,f.cells+1,f.stacks⟩) hsm hsb rfl);have dV:=ł (show(w2.setCell ⟨F,1,none⟩ (.int .i64 (f.cells+1))).heap[g11]? = _ from(hsm.block g11 (lt_of_block HB.out) Aj).trans HB.out);have wS:=ł (dE.out.trans hsm (λb e => .inl (.inl e)));clear hsb hsm hk3 hk2;go_upto_region 9 with fail;clear f0 f1 f2 yH zt v0 v1 v2 hlv e3 e2;generalize w2.setCell ⟨F,1,none⟩ (.int .i64 (f.cells+1))=w3 at *;have HST:=ł (show eY wb F w3 (.slice sa f.slots.length sc) ⟨f.slots,f.cells+1,f.stacks⟩from fA.out);have lT:=ł (λ(x:World) (hx:Mv (λb=>b=F\/Value.ownBlock (.slice sa f.slots.length sc)=some b) w3.drew x)=>(show x.heap[g11]? = _ from(hx.block g11 (lt_of_block dV.out) (λe=>by rcases e with e|e;exact Aj e;exact Hm.out e)).trans dV.out));refine rq (by kernel_rfl) 60 [some 50,some 51,some 52,some 53,some 54,some 55,some 56,some 57,some 58,some 59,none] [[],[],[1],[2],[3],[],[5],[4,6],[0,0,1,2,3,4,5,6,7],[8,0,1,2,3,4,5,6,7],[9,7,7,0,1,2,3,4,5,6,7]] [[],[],[1],[2],[3],[],[5],[4,6],[0],[8],[9,7]] [[0],[1],[2],[3],[4],[5],[6],[7],[8],[9],[10]] [[],[],[],[],[],[],[7],[10],[],[],[]] rfl (by kernel_rfl) (Mv (λb=>b=F\/Value.ownBlock (.slice sa f.slots.length sc)=some b)) (λ_=>Mv.refl _ _) (λx y z h1 h2=>h1.trans h2 (λ_ e => .inl e)) (YA F (.slice sa f.slots.length sc) (.agg #[.string s,.int .u8 k,.int .i64 n,.int .i64 (f.cells)]) ⟨s,k,n,f.cells⟩ wb f (f.cells+1) (f.stacks)) (λ_ x=>eY wb F x (.slice sa f.slots.length sc) ⟨f.slots,f.cells+1,f.stacks⟩) [[7]] ?z0 ?steps ?done
     case z0=>intro z hz;exact HST.out.drew
     case steps =>
      refine⟨?s0,?s1,?s2,?s3,?s4,?s5,?s6,?s7,?s8,?s9,?s10,trivial⟩
      case s0|s1 =>
       intro vs x hx hY hZ;clear hY hZ;simp only[zR];go_simp;exact⟨Mv.refl _ _,by intros;assumption,rfl,by intros;assumption⟩
      case s2 =>
       intro vs x hx hY hZ;have h1:vs 1 = .pointer (some ⟨F,0,none⟩):=hY 1 (by simp) (by simp);clear hY hZ;simp only[zR,h1];go_simp;exact⟨Mv.refl _ _,by intros;assumption,rfl,by intros;assumption⟩
      case s3 =>
       intro vs x hx hY hZ;have h2:vs 2 = .pointer (some ⟨F,0,none⟩):=hY 2 (by simp) (by simp);clear hY hZ;simp only[zR,h2];go_simp;exact⟨Mv.refl _ _,by intros;assumption,rfl,by intros;assumption⟩
      case s4 =>
       intro vs x hx hY hZ;have h3:vs 3 = .pointer (some ⟨F,0,none⟩):=hY 3 (by simp) (by simp);obtain⟨k0,k1,k2⟩:=di (hZ 0 (by simp) (by simp)).blk;clear hY hZ;simp only[zR,h3];go_simp;exact⟨Mv.refl _ _,by intros;assumption,rfl,by intros;assumption⟩
      case s5 =>
       intro vs x hx hY hZ;obtain⟨k0,k1,k2,k3⟩:=dF (lT.out x hx);clear hY hZ;simp only[zR];go_simp;exact⟨Mv.refl _ _,by intros;assumption,rfl,by intros;assumption⟩
      case s6 =>
       intro vs x hx hY hZ;have h5:vs 5 = .agg #[.string s,.int .u8 k,.int .i64 n,.int .i64 (f.cells)]:=hY 5 (by simp) (by simp);clear hY hZ;simp only[zR,h5];go_simp;exact⟨(Mv.refl _ _).alloc _,(by first|exact λh=>eY.grow h ((Mv.refl _ _).alloc _)|(intros;exact eY.grow (by assumption) ((Mv.refl _ _).alloc _))),⟨x.heap.size,rfl,ax.bN (n:=4) (f:=dL.cells) (l:=[⟨s,k,n,f.cells⟩]) (λ_=>rfl) (heap_alloc_new x _) rfl (by simp)⟩,by intros;exact YA.grow ((Mv.refl _ _).alloc _) _ _ (by assumption)⟩
      case s7 =>
       intro vs x hx hY hZ;have h4:vs 4 = .slice sa f.slots.length sc:=hY 4 (by simp) (by simp);obtain⟨g5,(h6:vs 6=_),hrow⟩:=hY 6 (by simp) (by simp);have hst:=hZ 0 (by simp) (by simp);obtain⟨a',c',w2',⟨hok,hv,hw⟩,hrow2,bK,hown2⟩:=oZ Tryz.JQ (f:=dL.cells) (λ_=>rfl) _ _ f.slots [⟨s,k,n,f.cells⟩] _ x hst.row hrow JR hst.g.size (by simp;omega);have HJ:=ł (hst.app bK);have HR2:=ł hrow2;have dE:=ł bK;clear hY hZ hst hrow hrow2 bK hown2;simp only[List.length_cons,List.length_nil,Nat.zero_add]at hok hv hw;simp only[zR,h4,h6];go_simp;exact⟨dE.out.mono (λ_ e => .inl (.inr e)),⟨a',c',rfl,HR2.out,HJ.out⟩,λj l h1 h2 h3 h4 hy=>YA.keep j l (λe=>by subst e;exact h2 (by simp)) (λe=>h1 e) (λe=>by subst e;exact h3 (by simp)) hy⟩
      case s8 =>
       intro vs x hx hY hZ;have h0:vs 0 = .pointer (some ⟨F,0,none⟩):=hY 0 (by simp) (by simp);clear hY hZ;simp only[zR,h0];go_simp;exact⟨Mv.refl _ _,rfl,by intros;assumption⟩
      case s9 =>
       intro vs x hx hY hZ;have h8:vs 8 = .pointer (some ⟨F,0,none⟩):=hY 8 (by simp) (by simp);clear hY hZ;simp only[zR,h8];go_simp;exact⟨Mv.refl _ _,rfl,by intros;assumption⟩
      case s10 =>
       intro vs x hx hY hZ;have h9:vs 9 = .pointer (some ⟨F,0,none⟩):=hY 9 (by simp) (by simp);obtain⟨a',c',(h7:vs 7=_),hrow,hj⟩:=hY 7 (by simp) (by simp);have HS:=ł (hj.store hrow);obtain⟨k0,k1,k2⟩:=di hj.2.1;have zt:=aD hj.2.1;have dE:=ł (AO hj.2.1 (vs 7));rw[h7]at dE;clear hY hZ hrow hj;simp only[zR,h9,h7];go_simp;exact⟨dE.out.2.mono (λ_ e => .inl (.inl e)),⟨_,HS.out⟩,λj l h1 h2 h3 h4 hy=>YA.keep j l (λe=>by subst e;have h5:=h4 7 (by simp);simp at h5) (λe=>by subst e;exact h2 (by simp)) (λe=>h1 e) hy⟩
     case done =>
     intro vs wy hxy hY _;obtain⟨Hl,hst'⟩:=hY 10 (by decide) rfl;simp only[List.length_cons,List.length_nil,Nat.zero_add,Nat.reduceAdd];rw[show List.range 11=[0,1,2,3,4,5,6,7,8,9,10]from rfl];simp only[zR];clear hY;have aQ:=ł hst';have Ak:=ł (show Mv (λb=>b=F\/Value.ownBlock (.slice sa f.slots.length sc)=some b) w wy from wS.out.trans (Mv.trans (Mv.refl _ w3).drew hxy (λb e => .inl e)) (λb e => .inl e));clear hst' hxy lT HST;go_wp2_with fail
     go_end0
     exact⟨rfl,_,by rw[HAD.out];exact aQ.out,Ak.out⟩
end Go.Proofs.YtnobahchcongnaaGreat
