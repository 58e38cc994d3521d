import Derived.Shelf.SlGeneric
import Derived.Shelf.SlSortCmp.WholeK
import Derived.Ground.SlsfProg
import Derived.Test.YtadecgbblajifaaGreatDoorA09
import Derived.Shelf.SlSortCmp.NoneTotal
import Derived.Deep.AppendLies
set_option linter.unusedSimpArgs false
set_option linter.unusedVariables false
set_option maxRecDepth 100000
set_option maxHeartbeats 25600000
namespace Go.Proofs.YtadecgbblajifaaGreatDoor
end Go.Proofs.YtadecgbblajifaaGreatDoor
namespace Go.Proofs
open Go.Shelf
def Tryz.R7:Go.Shelf.Ren:=⟨fun|6=>136|15=>175|14=>174|28=>207|29=>208|20=>199|21=>200|22=>201|23=>202|24=>203|25=>204|26=>205|27=>206|46=>223|47=>224|48=>225|49=>226|50=>227|57=>246|n=>n,fun|22=>153|24=>155|25=>203|3=>3|39=>157|0=>0|53=>249|55=>251|4=>4|46=>243|45=>242|50=>197|5=>5|9=>9|66=>260|70=>122|76=>282|77=>283|n=>n,fun|n=>n⟩
theorem Tryz.Jn:Go.Proofs.SlLaysF0.n6 Tryz.prog Tryz.R7 := {
 mixed:=by kernel_rfl
 f6:=⟨Tryz.f136.name,by decide,Tryz.func136.trans (congrArg some (by kernel_rfl))⟩
 f14:=⟨Tryz.f174.name,by decide,Tryz.func174.trans (congrArg some (by kernel_rfl))⟩
 f15:=Tryz.func175.trans (congrArg some (by kernel_rfl))
 f20:=⟨Tryz.f199.name,by decide,Tryz.func199.trans (congrArg some (by kernel_rfl))⟩
 f21:=⟨Tryz.f200.name,by decide,Tryz.func200.trans (congrArg some (by kernel_rfl))⟩
 f22:=⟨Tryz.f201.name,by decide,Tryz.func201.trans (congrArg some (by kernel_rfl))⟩
 f23:=⟨Tryz.f202.name,by decide,Tryz.func202.trans (congrArg some (by kernel_rfl))⟩
 f24:=⟨Tryz.f203.name,by decide,Tryz.func203.trans (congrArg some (by kernel_rfl))⟩
 f25:=⟨Tryz.f204.name,by decide,Tryz.func204.trans (congrArg some (by kernel_rfl))⟩
 f26:=⟨Tryz.f205.name,by decide,Tryz.func205.trans (congrArg some (by kernel_rfl))⟩
 f27:=⟨Tryz.f206.name,by decide,Tryz.func206.trans (congrArg some (by kernel_rfl))⟩
 f28:=Tryz.func207.trans (congrArg some (by kernel_rfl))
 f29:=Tryz.func208.trans (congrArg some (by kernel_rfl))
 f46:=⟨Tryz.f223.name,by decide,Tryz.func223.trans (congrArg some (by kernel_rfl))⟩
 f47:=Tryz.func224.trans (congrArg some (by kernel_rfl))
 f48:=Tryz.func225.trans (congrArg some (by kernel_rfl))
 f49:=⟨Tryz.f226.name,by decide,Tryz.func226.trans (congrArg some (by kernel_rfl))⟩
 f50:=⟨Tryz.f227.name,by decide,Tryz.func227.trans (congrArg some (by kernel_rfl))⟩
 f57:=⟨Tryz.f246.name,by decide,Tryz.func246.trans (congrArg some (by kernel_rfl))⟩
 t0:=Tryz.underlying0
 a0:=Tryz.isAgg0
 z0:=Tryz.sizeOf0
 v0:=Tryz.zeroValue0
 t3:=Tryz.underlying3
 a3:=Tryz.isAgg3
 z3:=Tryz.sizeOf3
 v3:=Tryz.zeroValue3
 t4:=Tryz.underlying4
 a4:=Tryz.isAgg4
 z4:=Tryz.sizeOf4
 v4:=Tryz.zeroValue4
 t5:=Tryz.underlying5
 a5:=Tryz.isAgg5
 z5:=Tryz.sizeOf5
 v5:=Tryz.zeroValue5
 t9:=Tryz.underlying9
 a9:=Tryz.isAgg9
 z9:=Tryz.sizeOf9
 v9:=Tryz.zeroValue9
 t22:=Tryz.underlying153
 a22:=Tryz.isAgg153
 z22:=Tryz.sizeOf153
 v22:=Tryz.zeroValue153
 t25:=Tryz.underlying203
 a25:=Tryz.isAgg203
 z25:=Tryz.sizeOf203
 v25:=Tryz.zeroValue203
 t39:=Tryz.underlying157
 a39:=Tryz.isAgg157
 z39:=Tryz.sizeOf157
 v39:=Tryz.zeroValue157
 t45:=Tryz.underlying242
 a45:=Tryz.isAgg242
 z45:=Tryz.sizeOf242
 v45:=Tryz.zeroValue242
 t46:=Tryz.underlying243
 a46:=Tryz.isAgg243
 z46:=Tryz.sizeOf243
 v46:=Tryz.zeroValue243
 t50:=Tryz.underlying197
 a50:=Tryz.isAgg197
 z50:=Tryz.sizeOf197
 v50:=Tryz.zeroValue197
 t53:=Tryz.underlying249
 a53:=Tryz.isAgg249
 z53:=Tryz.sizeOf249
 v53:=Tryz.zeroValue249
 t55:=Tryz.underlying251
 a55:=Tryz.isAgg251
 z55:=Tryz.sizeOf251
 v55:=Tryz.zeroValue251
 t66:=Tryz.underlying260
 a66:=Tryz.isAgg260
 z66:=Tryz.sizeOf260
 v66:=Tryz.zeroValue260
 t70:=Tryz.underlying122
 a70:=Tryz.isAgg122
 z70:=Tryz.sizeOf122
 v70:=Tryz.zeroValue122
 t76:=Tryz.underlying282
 a76:=Tryz.isAgg282
 z76:=Tryz.sizeOf282
 v76:=Tryz.zeroValue282
 t77:=Tryz.underlying283
 a77:=Tryz.isAgg283
 z77:=Tryz.sizeOf283
 v77:=Tryz.zeroValue283 }
end Go.Proofs
namespace Go.Proofs.YtadecgbblajifaaGreatDoor
section
open Go.RowKit Go.Lib Go.Sort
abbrev bz:=Int × Int
def kI (x:bz):List Value:=[.int .i64 x.1,.int .i64 x.2]
def kV (x y:bz):Int:=Lib.compareInt x.1 y.1
theorem TF (x y:bz) (W:World):Calls Tryz.prog 137 #[.agg #[.int .i64 x.1,.int .i64 x.2],.agg #[.int .i64 y.1,.int .i64 y.2]] W λe w'=>e = .returned (.int .i64 (Lib.compareInt x.1 y.1))/\∃ q os',w'=grow (W.drewN q) os':=by
 have hcon:=λW'=>Tryz.cmp_Compare_int x.1 y.1 W';generalize Lib.compareInt x.1 y.1=r at hcon ⊢
 go_enter Tryz.func137,Tryz.ntmps137
 go_wp2_with (go_at_call 138;refine(hcon _).mono ?_;rintro e w' ⟨rfl,rfl⟩)
 go_ret;exact⟨rfl,0,_,by rw[alloc_eq_grow,alloc_eq_grow,grow_grow];rfl⟩
theorem TG (blk off size:Nat) (w:World):CmpLays Tryz.prog 137 #[] kI 2 kV blk off size w:=λ_ _ _ _ x y=>TF x y _
theorem Fv (x y:bz):ltOf kV x y=decide (x.1<y.1):=by
 unfold ltOf kV Lib.compareInt;by_cases h1:x.1<y.1
 · simp[h1]
 · by_cases h2:y.1<x.1 <;> simp[h1,h2]
theorem LD:SWO (ltOf kV) where
 irrefl x:=by rw[Fv];simp
 trans x y z h1 h2:=by rw[Fv]at *;simp at *;omega
 ntrans x y z h1 h2:=by rw[Fv]at *;simp at *;omega
def kN (l:List bz):List bz:=(pdq (ltOf kV) l.toArray 0 l.length (Lib.bitLen l.length) true true).toList
def kP:List bz->List Value
 | []=>[]
 |x :: l => .int .i64 x.1 :: .int .i64 x.2 :: kP l
theorem IY:∀ (l:List bz) (i:Nat) (h:i<l.length),(kP l)[i * 2]? = some (.int .i64 l[i].1)/\(kP l)[i * 2+1]? = some (.int .i64 l[i].2)
 | [],i,h=>by simp at h
 |x :: l,0,h=>by simp[kP]
 |x :: l,i+1,h=>by
  have:=IY l i (by simpa using h);rw[show(i+1) * 2=i * 2+1+1 by omega,show i * 2+1+1+1=(i * 2+1)+1+1 by omega];simp only[kP,List.getElem?_cons_succ,List.getElem_cons_succ];exact this
theorem RJ (a:List bz) (x:bz):kP (a ++ [x])=kP a ++ [.int .i64 x.1,.int .i64 x.2]:=by
 induction a with
 |nil=>rfl
 |cons y a ih=>simp[kP,ih]
abbrev eU (w:World) (base:Nat) (v:Value) (l:List bz):Prop:=w.ownsRow base 155 2 v l.length (kP l)
theorem eU.holds {w:World} {base g cap n:Nat} {l:List bz} (h:eU w base (.slice (some ⟨g,0,none⟩) n cap) l):HoldsK kI 2 w g 0 l.toArray/\g<w.heap.size:=by
 rcases h.2 with⟨e,_⟩|⟨g',cap',cur,e,_,hg,hnc,hcm,hcs,htake⟩
 · simp at e
 · simp only[Value.slice.injEq,Option.some.injEq,Addr.mk.injEq,and_true]at e;obtain⟨rfl,_,_⟩:=e;refine⟨λj hj => ?_,lt_of_block hg⟩;simp only[size_flatK,List.size_toArray]at hj;rw[get_flatK _ _ _ _ (by simpa using hj)];have hjl:j / 2<l.length:=by omega
   have hget:(kP l)[j]? = some ((kI (l.toArray[j / 2]!))[j % 2]!):=by
    have h1:=IY l (j / 2) hjl;have h2:l.toArray[j / 2]! = l[j / 2]:=by simp[hjl]
    rw[h2];rcases Nat.mod_two_eq_zero_or_one j with h3|h3
    · rw[h3];have h4:=h1.1;rw[show j / 2 * 2=j by omega]at h4;exact h4
    · rw[h3];have h4:=h1.2;rw[show j / 2 * 2+1=j by omega]at h4;exact h4
   have Yz:cur[j]? = some ((kI (l.toArray[j / 2]!))[j % 2]!):=by
    rw[← hget,← htake,List.getElem?_take,if_pos (by omega)];simp
   constructor
   · simp only[World.cell?,hg,Option.isSome_none,Bool.false_eq_true,if_false,Nat.zero_add];exact Yz
   · simp[World.frozen?,hg]
theorem SX (base:Nat) (v:Value) (l:List bz) (w:World) (h:eU w base v l) (hsz:l.length<4611686018427387904) :
 Calls Tryz.prog 136 #[v,.func (.func 137) #[] #[]] w λe w'=>e = .returned (.tuple #[])/\ai 2 kI w' v (kN l)/\Mv (λb=>v.ownBlock=some b) w w':=by
 have eg:∀ args w,(callFunc 137 args).run Tryz.prog w = .ok (.enter 137 args) w:=enters_of Tryz.func137 (by kernel_rfl) rfl;have hlen:(kN l).length=l.length:=by
  have hp:=(pdq_sorts (ltOf kV) LD l.toArray 0 l.length (Lib.bitLen l.length) true true (Nat.zero_le _) (by simp) (Or.inl rfl)).1.1
  simpa[kN]using hp
 rcases h.2 with⟨rfl,hl⟩|⟨g,cap,cur,rfl,hb,hg,hnc,hcm,hcs,htake⟩
 · obtain rfl:l=[]:=List.eq_nil_of_length_eq_zero hl;have hcon:=AnyF.slices_SortFunc_none Tryz.Jn none 0 (.func (.func 137) #[] #[]) w;change Calls Tryz.prog 136 _ _ _ at hcon;refine hcon.mono ?_;rintro e w' ⟨rfl,rfl⟩;have h0:kN []=[]:=List.eq_nil_of_length_eq_zero (by simpa using hlen);rw[h0];exact⟨rfl,ai.nil _ _ _,Mv.refl _ _⟩
 · obtain⟨hH,hblk⟩:=eU.holds h;have hcon:=AnyQ.slices_SortFunc_eq Tryz.Jn 2 Tryz.isAgg155 Tryz.sizeOf155 kI (λ_=>rfl) (λx v hv=>by simp[kI]at hv;rcases hv with rfl|rfl <;> rfl) kV LD 137 #[] g 0 cap l.toArray w eg (TG g 0 _ w) hH hblk (by simpa using hsz);change Calls Tryz.prog 136 _ _ _ at hcon;simp only[List.size_toArray]at hcon;refine hcon.mono ?_;rintro e w' ⟨rfl,n,os,rfl⟩;have hH2:=holdsK_sortWorldK_c kI 2 w g 0 l.toArray (pdq (ltOf kV) l.toArray 0 l.length (Lib.bitLen l.length) true true) n os hH hblk (by have:=hlen;simp only[kN,Array.length_toList]at this;simpa using this);refine⟨rfl,⟨some ⟨g,0,none⟩,cap,by rw[hlen],by rw[hlen];exact hnc,by rw[hlen];omega,λi x hx=>⟨g,0,rfl,λj u hu => ?_⟩⟩,?_⟩
   · have hi:=(List.getElem?_eq_some_iff.1 hx).1;have hj:j<2:=by
      have:=(List.getElem?_eq_some_iff.1 hu).1
      simpa[kI]using this
     have hc:=(hH2.cell (i:=i) (c:=j) (by simpa[kN]using hi) hj).1;rw[hc];have h1:(pdq (ltOf kV) l.toArray 0 l.length (Lib.bitLen l.length) true true)[i]! = x:=by
      have:(pdq (ltOf kV) l.toArray 0 l.length (Lib.bitLen l.length) true true)[i]? = some x:=by simpa[kN]using hx
      simp[getElem!_def,this]
     rw[h1];simp[getElem!_def,hu]
   · refine⟨rfl,rfl,rfl,size_sortWorldK_c kI 2 w g 0 n _ os,λb hb hne => ?_⟩;have hbg:g≠b:=λe=>hne (by simp[Value.ownBlock,e])
     show(w.heap.modify g _ ++ os)[b]? = _
     rw[Array.getElem?_append_left (by simpa using hb),Array.getElem?_modify,if_neg hbg]
def nK (first count:Int):Int->List bz->Bool
 |_,[]=>true
 |used,x :: r=>if x.1<first then false
  else if wrap64 (x.1 - first)<used\/count<=wrap64 (x.1 - first)\/x.2<1\/wrap64 (count - wrap64 (x.1 - first))<x.2 then false
  else nK first count (wrap64 (wrap64 (x.1 - first)+x.2)) r
def iC (l:List bz) (first count:Int):Bool:=nK first count 0 (kN l)
theorem IZ (base:Nat) (v:Value) (l:List bz) (first count:Int) (w:World) (h:eU w base v l) (hsz:l.length<4611686018427387904) :
 Calls Tryz.prog 88 #[v,.int .i64 first,.int .i64 count] w λe w'=>e = .returned (.bool (iC l first count))/\Mv (λb=>v.ownBlock=some b) w w':=by
 have HS:=ł (SX base v l w h hsz);obtain⟨va,vc,rfl⟩:∃ a c,v = .slice a l.length c:=by
  rcases h.2 with⟨rfl,hl⟩|⟨g,cap,cur,rfl,_⟩
  · exact⟨none,0,by rw[hl]⟩
  · exact⟨_,_,rfl⟩
 clear h
 go_enter Tryz.func88,Tryz.ntmps88
 go_wp2_with fail;refine HS.out.mono ?_;rintro e w1 ⟨rfl,hrow,hm⟩;have HB:=ł (show iC l first count=nK first count 0 (kN l)from rfl);generalize kN l=sl at *;obtain⟨a,cap,hv,hcap,hlen⟩:=hrow.form;have HR:=ł hrow;have HM:=ł hm;simp only[Value.slice.injEq,true_and]at hv;obtain⟨rfl,hll,rfl⟩:=hv;rw[hll]at HR HM ⊢;clear hrow hm hll HS hsz;go_wp2_with fail
 go_loopw [7,15] (λu t wr=>∃ (k:Nat) (used:Int),u = .int .i64 used/\t = .int .i64 k/\k<=sl.length/\Grow w1 wr/\iC l first count=nK first count used (sl.drop k)) (λ_ t _=>sl.length - (intOf t).toNat)
 case atStart=>exact⟨0,0,rfl,rfl,Nat.zero_le _,Mv.refl _ _,HB.out⟩
 obtain⟨k,used,rfl,rfl,hk,hg,hap⟩:=hrel;have HG:=ł hg;have GU:=ł hap;have uB:=ł (Mv.trans HM.out hg (λ_ e=>e.elim));clear hap;by_cases hlt:k<sl.length
 · obtain⟨b,off,cap',e,_,hcc⟩:=(HR.out.later hg).at hlt;simp only[Value.slice.injEq,true_and]at e;obtain⟨rfl,rfl⟩:=e;have c0:=hcc 0 _ rfl;have c1:=hcc 1 _ rfl;simp only[Nat.add_zero]at c0;have hbl:b<wr.heap.size:=World.block_lt_of_cell? wr _ c0;have HD:=ł (show sl.drop k=sl[k] :: sl.drop (k+1)from(List.getElem_cons_drop hlt).symm);generalize hx:sl[k]=x at *;obtain⟨xa,xn⟩:=x;simp only at c0 c1;clear hcc hx hg;by_cases h1:xa<first
   · have HF:=ł (show iC l first count=false from by rw[GU.out,HD.out];simp only[nK];rw[if_pos h1]);go_wp2_with fail;go_ret;exact⟨aC (by rw[HF.out]),uB.out.alloc _⟩
   · have HST:=ł (show iC l first count=(if wrap64 (xa - first)<used\/count<=wrap64 (xa - first)\/xn<1\/wrap64 (count - wrap64 (xa - first))<xn then false else nK first count (wrap64 (wrap64 (xa - first)+xn)) (sl.drop (k+1)))from by
      rw[GU.out,HD.out];simp only[nK];rw[if_neg h1])
     generalize hsk:wrap64 (xa - first)=skip at *;by_cases hbad:skip<used\/count<=skip\/xn<1\/wrap64 (count - skip)<xn
     · have HF:=ł (show iC l first count=false from by rw[HST.out,if_pos hbad]);by_cases b1:skip<used
       · go_wp2_with fail;go_ret;exact⟨aC (by rw[HF.out]),uB.out.alloc _⟩
       · by_cases b2:count<=skip
         · go_wp2_with fail;go_ret;exact⟨aC (by rw[HF.out]),uB.out.alloc _⟩
         · by_cases b3:xn<1
           · clear hbad;go_wp2_with fail;go_ret;exact⟨aC (by rw[HF.out]),uB.out.alloc _⟩
           · have b4:wrap64 (count - skip)<xn:=by omega
             clear hbad;go_wp2_with fail;go_ret;exact⟨aC (by rw[HF.out]),uB.out.alloc _⟩
     · have HF:=ł (show iC l first count=nK first count (wrap64 (skip+xn)) (sl.drop (k+1))from by rw[HST.out,if_neg hbad]);have b1:¬ skip<used:=λe=>hbad (.inl e);have b2:¬ count<=skip:=λe=>hbad (.inr (.inl e));have b3:¬ xn<1:=λe=>hbad (.inr (.inr (.inl e)));have b4:¬ wrap64 (count - skip)<xn:=λe=>hbad (.inr (.inr (.inr e)));clear hbad;go_wp2_with fail
       go_roundw
       case rel=>exact⟨k+1,wrap64 (skip+xn),rfl,by go_num,by omega,HG.out.alloc _,HF.out⟩
       case measure=>simp[intOf];omega
 · obtain rfl:k=sl.length:=by omega
   have HF:=ł (show iC l first count=true from by rw[GU.out,List.drop_length];rfl);go_wp2_with fail;go_ret;exact⟨aC (by rw[HF.out]),uB.out.mono (λx e => .inl (by cases va with|none=>simp[Value.ownBlock]at e|some a=>simpa[Value.ownBlock]using e))⟩
end
section
open Go.RowKit
attribute [local go_sem ↓] jG
theorem Tryz.Ut:(Tryz.prog.info? 155).map (λi=>(i.zero,i.size,i.bytes))=some (some (.agg #[.int .i64 0,.int .i64 0]),2,16):=by kernel_rfl
theorem Da (v:Value) (x:bz) (xs:List bz) (base:Nat) (w:World) (hrow:eU w base v xs) (hb:base<=w.heap.size) (hlen:xs.length<=4398046511104) :
 ∃ a' c' w2,(sO Tryz.prog 153 153 v (.slice (some ⟨w.heap.size,0,none⟩) 1 1) (w.alloc (.cells #[.int .i64 x.1,.int .i64 x.2] 155)) /\
  oh Tryz.prog 153 153 v (.slice (some ⟨w.heap.size,0,none⟩) 1 1) (w.alloc (.cells #[.int .i64 x.1,.int .i64 x.2] 155)) = .slice a' (xs.length+1) c'/\appW Tryz.prog 153 153 v (.slice (some ⟨w.heap.size,0,none⟩) 1 1) (w.alloc (.cells #[.int .i64 x.1,.int .i64 x.2] 155))=w2) /\
  eU w2 base (.slice a' (xs.length+1) c') (xs ++ [x])/\Mv (λb=>v.ownBlock=some b) w w2/\(∀ g,(Value.slice a' (xs.length+1) c').ownBlock=some g->v.ownBlock=some g\/w.heap.size<=g):=by
 obtain⟨i0,hi,hz0,hz1,hz2⟩:=info_parts Tryz.Ut;obtain⟨v',w2,hr,hown1,hgrow,_,hnew⟩:=Hy (P:=Tryz.prog) (w.alloc (.cells #[.int .i64 x.1,.int .i64 x.2] 155)) base 153 153 155 i0 (.agg #[.int .i64 0,.int .i64 0]) 2 16 Tryz.underlying153 hi hz0 hz1 hz2 rfl (by decide) v _ _ (hrow.alloc _) ⟨w.heap.size,0,none⟩ 1 1 [.int .i64 x.1,.int .i64 x.2] rfl
  (World.news_of_block (cs:=#[.int .i64 x.1,.int .i64 x.2]) (t:=155) (fr:=(0,0)) (heap_alloc_new w _)) (by simp[Value.oneCell']) (by unfold maxLen;omega) (by omega) (by simp;omega)
 have hform:∃ a' c',v' = .slice a' (xs.length+1) c':=by
  rcases hown1.2 with⟨_,h0⟩|⟨g,cap,cur,rfl,_⟩
  · omega
  · exact⟨_,_,rfl⟩
 obtain⟨a',c',rfl⟩:=hform;obtain⟨hok,hv,hw2⟩:=DF hr;refine⟨a',c',w2,⟨hok,hv,hw2⟩,?_,((Mv.refl _ _).alloc _).grown hgrow (λk hk => .inl hk),λg hg => ?_⟩
 · rw[eU,RJ];simpa using hown1
 · rcases hnew g hg with h1|h1
   · exact .inl h1
   · exact .inr (by simp at h1;omega)
def sH (p:List bz × List bz) (s:aG):Option (List bz × List bz) :=
 if s.kind=1 then some (p.1 ++ [(s.at',1)],p.2)else if s.kind=2 then some (p.1 ++ [(s.at',s.len)],p.2)else if s.kind=3 then some (p.1,p.2 ++ [(s.at',1)])else none
def jK (l:List aG) (k:Nat):Option (List bz × List bz):=(l.take k).foldlM sH ([],[])
def nS (l:List aG) (cells stacks:Int):Bool:=match jK l l.length with
 |none=>false
 |some p=>iC p.1 0 cells && iC p.2 1 stacks
theorem Ih (l:List aG) (k:Nat) (h:k<l.length):jK l (k+1)=(jK l k).bind λp=>sH p l[k]:=by
 unfold jK;rw[List.take_succ_eq_append_getElem h,List.foldlM_append];simp
theorem Ii (l:List aG):∀ (d k:Nat),k+d<=l.length->jK l k=none->jK l (k+d)=none
 |0,_,_,h=>h
 |d+1,k,hk,h=>by
  have:=Ii l d (k+1) (by omega) (by rw[Ih l k (by omega),h];rfl);rwa[show k+1+d=k+(d+1) by omega]at this
structure kQ (w w1:World) (cv sv:Value) (cs ss:List bz):Prop where
 g:Grow w1 w
 c:eU w w1.heap.size cv cs
 s:eU w w1.heap.size sv ss
 d:∀ g,cv.ownBlock=some g->sv.ownBlock≠some g
theorem eU.stay {w w':World} {base:Nat} {v:Value} {l:List bz} {O:Nat->Prop} (h:eU w base v l) (hm:Mv O w w') (hO:∀ g,v.ownBlock=some g->¬ O g):eU w' base v l:=by
 refine⟨h.1,?_⟩;rcases h.2 with h1|⟨g,cap,cur,rfl,hb,hg,rest⟩
 · exact .inl h1
 · exact .inr ⟨g,cap,cur,rfl,hb,by rw[hm.block g (lt_of_block hg) (hO g rfl)];exact hg,rest⟩
theorem eU.slice {w:World} {base:Nat} {v:Value} {l:List bz} (h:eU w base v l):∃ a c,v = .slice a l.length c:=by
 rcases h.2 with⟨rfl,hl⟩|⟨g,cap,cur,rfl,_⟩
 · exact⟨none,0,by rw[hl]⟩
 · exact⟨_,_,rfl⟩
theorem kQ.NB {w w1 w2:World} {cv sv rA:Value} {cs cs2 ss:List bz} (h:kQ w w1 cv sv cs ss) (h2:eU w2 w1.heap.size rA cs2) (hm:Mv (λb=>cv.ownBlock=some b) w w2) (hn:∀ g,rA.ownBlock=some g->cv.ownBlock=some g\/w.heap.size<=g):kQ w2 w1 rA sv cs2 ss:=by
 refine⟨h.g.trans hm (λx e => .inr (h.c.lt x e).1),h2,h.s.stay hm (λg hg e=>h.d g e hg),λg hg e => ?_⟩;rcases hn g hg with h3|h3
 · exact h.d g h3 e
 · have:=(h.s.lt g e).2;omega
theorem kQ.YA {w w1 w2:World} {cv sv GV:Value} {cs ss QK:List bz} (h:kQ w w1 cv sv cs ss) (h2:eU w2 w1.heap.size GV QK) (hm:Mv (λb=>sv.ownBlock=some b) w w2) (hn:∀ g,GV.ownBlock=some g->sv.ownBlock=some g\/w.heap.size<=g):kQ w2 w1 cv GV cs QK:=by
 refine⟨h.g.trans hm (λx e => .inr (h.s.lt x e).1),h.c.stay hm (λg hg e=>h.d g hg e),h2,λg hg e => ?_⟩;rcases hn g e with h3|h3
 · exact h.d g hg h3
 · have:=(h.c.lt g hg).2;omega
theorem kQ.alloc {w w1:World} {cv sv:Value} {cs ss:List bz} (h:kQ w w1 cv sv cs ss) (o:Obj):kQ (w.alloc o) w1 cv sv cs ss:=⟨h.g.alloc o,h.c.alloc o,h.s.alloc o,h.d⟩
theorem R8 (fv:Value) (l:List aG) (cells stacks:Int) (w:World) (h:ai 4 aG.cells w fv l) (NC:l.length<=4398046511104) :
 Calls Tryz.prog 42 #[.agg #[fv,.int .i64 cells,.int .i64 stacks]] w λe w'=>e = .returned (.bool (nS l cells stacks))/\Grow w w':=by
 obtain⟨fa,jf,rfl,XE,XF⟩:=h.form;have HR:=ł h;have hg0:Grow w (w.alloc (.cells #[.slice fa l.length jf,.int .i64 cells,.int .i64 stacks] 33)):=(Mv.refl _ _).alloc _;have iK:=heap_alloc_new w (.cells #[.slice fa l.length jf,.int .i64 cells,.int .i64 stacks] 33);have iR:=ł hg0;have oD:=ł iK;clear h hg0 iK
 go_enter Tryz.func42,Tryz.ntmps42
 go_wp2_with fail;have hsz1:w.heap.size<(w.alloc (.cells #[.slice fa l.length jf,.int .i64 cells,.int .i64 stacks] 33)).heap.size:=by simp
 generalize w.alloc (.cells #[.slice fa l.length jf,.int .i64 cells,.int .i64 stacks] 33)=w1 at *
 go_loopw [3,4,10] (λcv sv t wr=>∃ (k:Nat) (cs ss:List bz),t = .int .i64 k/\k<=l.length/\jK l k=some (cs,ss)/\cs.length<=k/\ss.length<=k/\kQ wr w1 cv sv cs ss) (λ_ _ t _=>l.length - (intOf t).toNat)
 case atStart=>exact⟨0,[],[],rfl,Nat.zero_le _,rfl,Nat.le_refl _,Nat.le_refl _,Mv.refl _ _,World.ownsRow_nil _ _ _ _,World.ownsRow_nil _ _ _ _,by simp[Value.ownBlock]⟩
 obtain⟨k,cs,ss,rfl,hk,hsk,hcl,hsl,hp⟩:=hrel;have xX:=ł hsk;clear hsk;by_cases hlt:k<l.length
 · obtain⟨b,off,cap',e,_,hcc⟩:=(HR.out.later (Mv.trans iR.out hp.g (λ_ e=>e.elim))).at hlt;simp only[Value.slice.injEq,true_and]at e;obtain⟨rfl,rfl⟩:=e;have c0:=hcc 0 _ rfl;have c1:=hcc 1 _ rfl;have c2:=hcc 2 _ rfl;have c3:=hcc 3 _ rfl;simp only[Nat.add_zero]at c0;have hbl:b<wr.heap.size:=World.block_lt_of_cell? wr _ c0;have HS:=ł (Ih l k hlt);have Gl:=ł (λhn=>Ii l (l.length - (k+1)) (k+1) (by omega) hn);generalize hx:l[k]=x at *;obtain⟨xs,xk,xl,xt⟩:=x;simp only at c0 c1 c2 c3;clear hcc hx;by_cases hk1:xk=1
   · subst hk1;have gY:=hp.alloc (.cells #[.string xs,.int .u8 1,.int .i64 xl,.int .i64 xt] 89);obtain⟨a',c',w2,⟨hok,hv,hw⟩,hrow2,eX,nT⟩:=Da _ (xt,1) _ _ _ gY.c gY.g.size (by omega);rw[World.size_alloc]at hok hv hw;have rJ:=ł (gY.NB hrow2 eX nT);have xY:=ł (show jK l (k+1)=some (cs ++ [(xt,1)],ss)from by rw[HS.out,xX.out];simp[sH]);obtain⟨va,vc,pF⟩:=hp.c.slice;subst pF;clear hp gY hrow2 eX nT;go_wp2_with fail
     go_roundw
     case rel=>exact⟨k+1,_,_,by go_num,by omega,xY.out,by first|omega|(simp;omega),by first|omega|(simp;omega),by simpa using rJ.out⟩
     case measure=>simp[intOf];omega
   · have n1:(xk == 1)=false:=by simpa using hk1
     by_cases hk2:xk=2
     · subst hk2;have gY:=hp.alloc (.cells #[.string xs,.int .u8 2,.int .i64 xl,.int .i64 xt] 89);obtain⟨a',c',w2,⟨hok,hv,hw⟩,hrow2,eX,nT⟩:=Da _ (xt,xl) _ _ _ gY.c gY.g.size (by omega);rw[World.size_alloc]at hok hv hw;have rJ:=ł (gY.NB hrow2 eX nT);have xY:=ł (show jK l (k+1)=some (cs ++ [(xt,xl)],ss)from by rw[HS.out,xX.out];simp[sH]);obtain⟨va,vc,pF⟩:=hp.c.slice;subst pF;clear hp gY hrow2 eX nT;go_wp2_with fail
       go_roundw
       case rel=>exact⟨k+1,_,_,by go_num,by omega,xY.out,by first|omega|(simp;omega),by first|omega|(simp;omega),by simpa using rJ.out⟩
       case measure=>simp[intOf];omega
     · have n2:(xk == 2)=false:=by simpa using hk2
       by_cases hk3:xk=3
       · subst hk3;have gY:=hp.alloc (.cells #[.string xs,.int .u8 3,.int .i64 xl,.int .i64 xt] 89);obtain⟨a',c',w2,⟨hok,hv,hw⟩,hrow2,eX,nT⟩:=Da _ (xt,1) _ _ _ gY.s gY.g.size (by omega);rw[World.size_alloc]at hok hv hw;have rJ:=ł (gY.YA hrow2 eX nT);have xY:=ł (show jK l (k+1)=some (cs,ss ++ [(xt,1)])from by rw[HS.out,xX.out];simp[sH]);obtain⟨va,vc,pF⟩:=hp.s.slice;subst pF;clear hp gY hrow2 eX nT;go_wp2_with fail
         go_roundw
         case rel=>exact⟨k+1,_,_,by go_num,by omega,xY.out,by first|omega|(simp;omega),by first|omega|(simp;omega),by simpa using rJ.out⟩
         case measure=>simp[intOf];omega
       · have n3:(xk == 3)=false:=by simpa using hk3
         have HF:=ł (show nS l cells stacks=false from by
          have h1:jK l (k+1)=none:=by rw[HS.out,xX.out];simp[sH,hk1,hk2,hk3]
          have h2:=Gl.out h1;rw[show k+1+(l.length - (k+1))=l.length by omega]at h2;simp[nS,h2])
         have Gy:=ł (Mv.trans iR.out hp.g (λ_ e=>e.elim));clear hk1 hk2 hk3 hp;go_wp2_with fail;go_ret;exact⟨aC (by rw[HF.out]),Gy.out.alloc _⟩
 · obtain rfl:k=l.length:=by omega
   have QL:=ł (show nS l cells stacks=(iC cs 0 cells && iC ss 1 stacks)from by simp[nS,xX.out]);have hbr:wr.heap[w.heap.size]? = some (.cells #[.slice fa l.length jf,.int .i64 cells,.int .i64 stacks] 33 (0,0)):=by
    rw[hp.g.block _ hsz1 (λh=>h)];exact oD.out
   have b1:wr.cell? ⟨w.heap.size,1,none⟩=some (.int .i64 cells):=by simp[World.cell?,hbr]
   have Nt:=hp.g.size;have ku:=ł hbr;have HP:=ł hp;have HA1:=ł (IZ _ _ cs 0 cells wr hp.c (by omega));obtain⟨ca,cc,hcf⟩:=hp.c.slice;obtain⟨sa,sc,_o⟩:=hp.s.slice;subst hcf;subst _o;clear hbr hp;go_wp2_with fail;refine HA1.out.mono ?_;rintro e w2 ⟨rfl,hm2⟩;have wO:Grow w w2:=(Mv.trans iR.out HP.out.g (λ_ e=>e.elim)).trans hm2 (λx e => .inr (by have:=(HP.out.c.lt x e).1;have:=iR.out.size;omega));have hne:Value.ownBlock (.slice ca cs.length cc)≠some w.heap.size:=λe=>by have:=(HP.out.c.lt _ e).1;omega
   have b2:w2.cell? ⟨w.heap.size,2,none⟩=some (.int .i64 stacks):=by
    have h1:w2.heap[w.heap.size]? = wr.heap[w.heap.size]? := hm2.block _ (by omega) hne;simp[World.cell?,h1,ku.out]
   have HA2:=ł (IZ _ _ ss 1 stacks w2 (HP.out.s.stay hm2 (λg hg e=>HP.out.d g e hg)) (by omega));have HS2:=ł (show ∀ x,Value.ownBlock (.slice sa ss.length sc)=some x->w.heap.size<=x from λx e=>by have:=(HP.out.s.lt x e).1;have:=iR.out.size;omega);have gP:=ł wO;generalize iC cs 0 cells=q at *;clear hm2 wO hne b1;cases q
   · go_wp2_with fail;go_ret;exact⟨aC (by rw[QL.out];rfl),gP.out⟩
   · go_wp2_with fail;refine HA2.out.mono ?_;rintro e w3 ⟨rfl,eH⟩;have Aj:=ł (show Grow w w3 from gP.out.trans eH (λx e => .inr (HS2.out x e)));clear eH;go_wp2_with fail;go_ret;exact⟨aC (by rw[QL.out];rfl),Aj.out⟩
end
section
open Go.RowKit
def aG.okB (s:aG):Bool:=decide (s.name.size<=255) && (if s.kind=2 then decide (1<=s.len) && decide (s.len<=16)else s.len == 0)
def sS (c s:Int):Bool:=decide (0<=c) && (decide (c<=16384) && (decide (0<=s) && decide (s<=16384)))
def nU (l:List aG) (c s:Int):Bool:=sS c s && (l.all aG.okB && nS l c s)
theorem all_false {l:List aG} {k:Nat} (h:k<l.length) (hf:l[k].okB=false):l.all aG.okB=false:=by
 apply Bool.eq_false_iff.2;intro hall;have:=List.all_eq_true.1 hall l[k] (List.getElem_mem h);rw[hf]at this;cases this
theorem Uu {l:List aG} {k:Nat} (h:k<l.length) (h1:(l.take k).all aG.okB=true) (h2:l[k].okB=true):(l.take (k+1)).all aG.okB=true:=by
 rw[List.take_succ_eq_append_getElem h,List.all_append,h1];simp[h2]
theorem SY (fv:Value) (l:List aG) (cells stacks:Int) (w:World) (h:ai 4 aG.cells w fv l) (NC:l.length<=4398046511104) (hnm:∀ s∈l,s.name.size<=9223372036854775807) :
 Calls Tryz.prog 39 #[.agg #[fv,.int .i64 cells,.int .i64 stacks]] w λe w'=>e = .returned (.bool (nU l cells stacks))/\Grow w w':=by
 obtain⟨fa,jf,rfl,XE,XF⟩:=h.form;have HR:=ł h;have jD:=ł hnm;have GX:=ł (show nU l cells stacks=(sS cells stacks && (l.all aG.okB && nS l cells stacks))from rfl);have hg0:Grow w (w.alloc (.cells #[.slice fa l.length jf,.int .i64 cells,.int .i64 stacks] 33)):=(Mv.refl _ _).alloc _;have iK:=heap_alloc_new w (.cells #[.slice fa l.length jf,.int .i64 cells,.int .i64 stacks] 33);have iR:=ł hg0;have oD:=ł iK;clear h hg0 iK hnm;by_cases Ak:(0<=cells/\cells<=16384)/\0<=stacks/\stacks<=16384
 · obtain⟨⟨q1,q2⟩,q3,q4⟩:=Ak;have _q:=ł (show sS cells stacks=true from by simp[sS,q1,q2,q3,q4])
   go_enter Tryz.func39,Tryz.ntmps39
   go_wp2_with fail;have hsz1:w.heap.size<(w.alloc (.cells #[.slice fa l.length jf,.int .i64 cells,.int .i64 stacks] 33)).heap.size:=by simp
   generalize w.alloc (.cells #[.slice fa l.length jf,.int .i64 cells,.int .i64 stacks] 33)=w1 at *
   go_loopw [26] (λt wr=>∃ k:Nat,t = .int .i64 k/\k<=l.length/\Grow w1 wr/\(l.take k).all aG.okB=true) (λt _=>l.length - (intOf t).toNat)
   case atStart=>exact⟨0,rfl,Nat.zero_le _,Mv.refl _ _,rfl⟩
   obtain⟨k,rfl,hk,hg,hall⟩:=hrel;have HG:=ł hg;have gD:=ł hall;have eO:=ł (Mv.trans iR.out hg (λ_ e=>e.elim));clear hall;by_cases hlt:k<l.length
   · obtain⟨b,off,cap',e,_,hcc⟩:=(HR.out.later eO.out).at hlt;simp only[Value.slice.injEq,true_and]at e;obtain⟨rfl,rfl⟩:=e;have c0:=hcc 0 _ rfl;have c1:=hcc 1 _ rfl;have c2:=hcc 2 _ rfl;have c3:=hcc 3 _ rfl;simp only[Nat.add_zero]at c0;have hbl:b<wr.heap.size:=World.block_lt_of_cell? wr _ c0;have lQ:=ł (all_false hlt);have HAS:=ł (Uu hlt gD.out);have hsn:=jD.out l[k] (List.getElem_mem hlt);generalize hx:l[k]=x at *;obtain⟨xs,xk,xl,xt⟩:=x;simp only at c0 c1 c2 c3 hsn;clear hcc hx hg;have lS:=ł (show aG.okB ⟨xs,xk,xl,xt⟩=(decide (xs.size<=255) && (if xk=2 then decide (1<=xl) && decide (xl<=16)else xl == 0))from rfl);by_cases hok:aG.okB ⟨xs,xk,xl,xt⟩=true
     · have ND:=ł (HAS.out hok);rw[lS.out]at hok;have wP:xs.size<=255:=by simp at hok;exact hok.1
       clear lQ HAS;by_cases h2:xk=2
       · subst h2;obtain⟨g1,g2⟩:1<=xl/\xl<=16:=by simpa[wP]using hok
         clear hok;go_wp2_with fail
         go_roundw
         case rel=>exact⟨k+1,by go_num,by omega,HG.out.alloc _,ND.out⟩
         case measure=>simp[intOf];omega
       · have n2:(xk == 2)=false:=by simpa using h2
         have _t:(xk != 2)=true:=by simpa using h2
         obtain rfl:xl=0:=by simpa[wP,h2]using hok
         clear hok h2;go_wp2_with fail
         go_roundw
         case rel=>exact⟨k+1,by go_num,by omega,HG.out.alloc _,ND.out⟩
         case measure=>simp[intOf];omega
     · have hok2:aG.okB ⟨xs,xk,xl,xt⟩=false:=by simpa using hok
       have HF:=ł (show nU l cells stacks=false from by rw[GX.out,lQ.out hok2];simp);rw[lS.out]at hok2;clear hok lQ HAS;by_cases wP:xs.size<=255
       · by_cases h2:xk=2
         · subst h2;have hbad:xl<1\/16<xl:=by simp[wP]at hok2;omega
           clear hok2;rcases hbad with hbad|hbad
           · go_wp2_with fail;go_ret;exact⟨aC (by rw[HF.out]),eO.out.alloc _⟩
           · have:¬ xl<1:=by omega
             go_wp2_with fail;go_ret;exact⟨aC (by rw[HF.out]),eO.out.alloc _⟩
         · have n2:(xk == 2)=false:=by simpa using h2
           have _t:(xk != 2)=true:=by simpa using h2
           have n0:(xl != 0)=true:=by simpa[wP,h2]using hok2
           clear hok2 h2;go_wp2_with fail;go_ret;exact⟨aC (by rw[HF.out]),eO.out.alloc _⟩
       · clear hok2;go_wp2_with fail;go_ret;exact⟨aC (by rw[HF.out]),eO.out.alloc _⟩
   · obtain rfl:k=l.length:=by omega
     have hbr:wr.heap[w.heap.size]? = some (.cells #[.slice fa l.length jf,.int .i64 cells,.int .i64 stacks] 33 (0,0)):=by
      rw[hg.block _ hsz1 (λh=>h)];exact oD.out
     have b0:wr.cell? ⟨w.heap.size,0,none⟩=some (.slice fa l.length jf):=by simp[World.cell?,hbr]
     have b1:wr.cell? ⟨w.heap.size,1,none⟩=some (.int .i64 cells):=by simp[World.cell?,hbr]
     have b2:wr.cell? ⟨w.heap.size,2,none⟩=some (.int .i64 stacks):=by simp[World.cell?,hbr]
     have HD:=ł (R8 _ l cells stacks wr (HR.out.later eO.out) NC);have HF:=ł (show nU l cells stacks=nS l cells stacks from by
      have:=gD.out;rw[List.take_length]at this;rw[GX.out,_q.out,this];simp)
     clear hbr hg;go_wp2_with fail;refine HD.out.mono ?_;rintro e w2 ⟨rfl,hm2⟩;have gP:=ł (Mv.trans eO.out hm2 (λ_ e=>e.elim));clear hm2;go_wp2_with fail;go_ret;exact⟨aC (by rw[HF.out]),gP.out⟩
 · have HF:=ł (show nU l cells stacks=false from by
    rw[GX.out];have:sS cells stacks=false:=by
     apply Bool.eq_false_iff.2;intro h;simp[sS]at h;exact Ak ⟨⟨h.1,h.2.1⟩,h.2.2⟩
    rw[this];rfl)
   by_cases q1:cells<0
   · go_enter Tryz.func39,Tryz.ntmps39
     go_wp2_with fail;go_ret;exact⟨aC (by rw[HF.out]),iR.out⟩
   · by_cases q2:16384<cells
     · go_enter Tryz.func39,Tryz.ntmps39
       go_wp2_with fail;go_ret;exact⟨aC (by rw[HF.out]),iR.out⟩
     · by_cases q3:stacks<0
       · clear Ak
         go_enter Tryz.func39,Tryz.ntmps39
         go_wp2_with fail;go_ret;exact⟨aC (by rw[HF.out]),iR.out⟩
       · have q4:16384<stacks:=by omega
         clear Ak
         go_enter Tryz.func39,Tryz.ntmps39
         go_wp2_with fail;go_ret;exact⟨aC (by rw[HF.out]),iR.out⟩
end
end Go.Proofs.YtadecgbblajifaaGreatDoor
