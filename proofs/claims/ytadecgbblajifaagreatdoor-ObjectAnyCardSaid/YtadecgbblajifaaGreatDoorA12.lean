import Derived.Test.YtadecgbblajifaaGreatDoorA10
import Derived.Test.YtadecgbblajifaaGreatDoorA11
set_option linter.unusedSimpArgs false
set_option linter.unusedVariables false
set_option maxRecDepth 100000
set_option maxHeartbeats 25600000
namespace Go.Proofs.YtadecgbblajifaaGreatDoor
open Go.RowKit
def zw (v:aL) (s:aG):Bool:=(s.name == v.name) && ((s.kind == v.kind) && (s.len == v.len))
def kJ (ps:List aL) (ss:List aG) (k:Nat):Bool:=(List.range k).all λi=>match ps[i]?,ss[i]? with
 |some v,some s=>zw v s
 |_,_=>true
theorem R9 (ps:List aL) (ss:List aG) (k:Nat) (h:k<ps.length) (h2:k<ss.length):kJ ps ss (k+1)=(kJ ps ss k && zw ps[k] ss[k]):=by
 unfold kJ;rw[List.range_succ,List.all_append];simp[h,h2]
theorem RL (ps:List aL) (ss:List aG) (k n:Nat) (hkn:k<n) (h:k<ps.length) (h2:k<ss.length) (hf:zw ps[k] ss[k]=false):kJ ps ss n=false:=by
 unfold kJ;apply Bool.eq_false_iff.2;intro hall;have:=List.all_eq_true.1 hall k (by simp;exact hkn);rw[List.getElem?_eq_getElem h,List.getElem?_eq_getElem h2]at this;simp only at this;rw[hf]at this;cases this
def aA.bT (o:aA):Int:=if(o.qD && nU o.slots o.cells o.stacks)=false then 3 else if o.slots.length<o.params.length then 20 else if kJ o.params o.slots o.params.length=false then 20 else(dR o.code o.refs).2
theorem CB (o:bX) (w:World) (ht:bW w) (h:mF w o):Calls Tryz.prog 19 #[o.val] w λe w'=>e = .returned (.int .i64 o.d.bT)/\Grow w w':=by
 have HT:=ł ht;have HO:=ł h;obtain⟨pa,gF,hpv,En,Eo⟩:=h.params.form;obtain⟨sa,eY,hsv,Ep,Er⟩:=h.slots.form;obtain⟨ca,bD,hcv,zG,zH⟩:=h.code.form;obtain⟨ra,bI,xZ,zI,hrlen⟩:=h.refs.form;clear ht h;obtain⟨⟨s,ps,ss,cl,st,co,rf⟩,pv,sv,cv,rv⟩:=o;simp only at hpv hsv hcv xZ Eo Er zH hrlen En Ep zG zI;subst hpv hsv hcv xZ;have pG:=ł (show aA.bT ⟨s,ps,ss,cl,st,co,rf⟩=(if(aA.qD ⟨s,ps,ss,cl,st,co,rf⟩ && nU ss cl st)=false then 3 else if ss.length<ps.length then 20 else if kJ ps ss ps.length=false then 20 else(dR co rf).2)from rfl);have hg0:Grow w (w.alloc (.cells #[.string s,.slice pa ps.length gF,.slice sa ss.length eY,.int .i64 cl,.int .i64 st,.slice ca co.length bD,.slice ra rf.length bI] 39)):=(Mv.refl _ _).alloc _;have iK:=heap_alloc_new w (.cells #[.string s,.slice pa ps.length gF,.slice sa ss.length eY,.int .i64 cl,.int .i64 st,.slice ca co.length bD,.slice ra rf.length bI] 39);have HH:=ł (SV _ _ (HO.out.later hg0));have iR:=ł hg0;have oD:=ł iK;clear hg0 iK
 go_enter Tryz.func19,Tryz.ntmps19
 go_wp2_with fail;have hsz1:w.heap.size<(w.alloc (.cells #[.string s,.slice pa ps.length gF,.slice sa ss.length eY,.int .i64 cl,.int .i64 st,.slice ca co.length bD,.slice ra rf.length bI] 39)).heap.size:=by simp
 generalize w.alloc (.cells #[.string s,.slice pa ps.length gF,.slice sa ss.length eY,.int .i64 cl,.int .i64 st,.slice ca co.length bD,.slice ra rf.length bI] 39)=w1 at *;refine HH.out.mono ?_;rintro e w2 ⟨rfl,hm2⟩;have hbr:w2.heap[w.heap.size]? = some (.cells #[.string s,.slice pa ps.length gF,.slice sa ss.length eY,.int .i64 cl,.int .i64 st,.slice ca co.length bD,.slice ra rf.length bI] 39 (0,0)):=by
  rw[hm2.block _ hsz1 (λh=>h)];exact oD.out
 have hsz2:w.heap.size<w2.heap.size:=by have:=hm2.size;omega
 have HG2:=ł (Mv.trans iR.out hm2 (λ_ e=>e.elim));have HB2:=ł hbr;generalize aA.qD ⟨s,ps,ss,cl,st,co,rf⟩=hq at *;cases hq
 · clear hm2 hbr;go_wp2_with fail;go_ret;exact⟨dM (by rw[pG.out];simp),HG2.out⟩
 have b2:w2.cell? ⟨w.heap.size,2,none⟩=some (.slice sa ss.length eY):=by simp[World.cell?,hbr]
 have b3:w2.cell? ⟨w.heap.size,3,none⟩=some (.int .i64 cl):=by simp[World.cell?,hbr]
 have b4:w2.cell? ⟨w.heap.size,4,none⟩=some (.int .i64 st):=by simp[World.cell?,hbr]
 have BH:=ł (SY _ ss cl st w2 (HO.out.later HG2.out).slots HO.out.ok.few (λx hx=>(HO.out.ok.slots x hx).1));clear hm2 hbr;go_wp2_with fail;refine BH.out.mono ?_;rintro e w3 ⟨rfl,eH⟩;have hbr:w3.heap[w.heap.size]? = some (.cells #[.string s,.slice pa ps.length gF,.slice sa ss.length eY,.int .i64 cl,.int .i64 st,.slice ca co.length bD,.slice ra rf.length bI] 39 (0,0)):=by
  rw[eH.block _ hsz2 (λh=>h)];exact HB2.out
 have NA:w.heap.size<w3.heap.size:=by have:=eH.size;omega
 have fP:=ł (Mv.trans HG2.out eH (λ_ e=>e.elim));have HB3:=ł hbr;generalize nU ss cl st=fq at *;cases fq
 · clear eH hbr b2 b3 b4;go_wp2_with fail;go_ret;exact⟨dM (by rw[pG.out];simp),fP.out⟩
 have d1:w3.cell? ⟨w.heap.size,1,none⟩=some (.slice pa ps.length gF):=by simp[World.cell?,hbr]
 have d2:w3.cell? ⟨w.heap.size,2,none⟩=some (.slice sa ss.length eY):=by simp[World.cell?,hbr]
 clear eH hbr b2 b3 b4;by_cases hsl:ss.length<ps.length
 · go_wp2_with fail;go_ret;exact⟨dM (by rw[pG.out];simp[hsl]),fP.out⟩
 have Al:=ł (show aA.bT ⟨s,ps,ss,cl,st,co,rf⟩=(if kJ ps ss ps.length=false then 20 else(dR co rf).2)from by rw[pG.out,if_neg (by simp),if_neg hsl]);go_wp2_with fail;clear d1 d2
 go_loopw [28] (λt wr=>∃ k:Nat,t = .int .i64 k/\k<=ps.length/\Grow w3 wr/\kJ ps ss k=true) (λt _=>ps.length - (intOf t).toNat)
 case atStart=>exact⟨0,rfl,Nat.zero_le _,Mv.refl _ _,rfl⟩
 obtain⟨k,rfl,hk,hg,hag⟩:=hrel;have HG:=ł hg;have QM:=ł hag;have eO:=ł (Mv.trans fP.out hg (λ_ e=>e.elim));have hbr:wr.heap[w.heap.size]? = some (.cells #[.string s,.slice pa ps.length gF,.slice sa ss.length eY,.int .i64 cl,.int .i64 st,.slice ca co.length bD,.slice ra rf.length bI] 39 (0,0)):=by
  rw[hg.block _ NA (λh=>h)];exact HB3.out
 have Nt:w.heap.size<wr.heap.size:=by have:=hg.size;omega
 clear hag hg;by_cases hlt:k<ps.length
 · have hks:k<ss.length:=by omega
   obtain⟨b,off,cap',e,_,hcc⟩:=(HO.out.params.later eO.out).at hlt;simp only[Value.slice.injEq,true_and]at e;obtain⟨rfl,rfl⟩:=e;have c0:=hcc 0 _ rfl;have c1:=hcc 1 _ rfl;have c2:=hcc 2 _ rfl;simp only[Nat.add_zero]at c0;obtain⟨b',off',aaf,e,_,wQ⟩:=(HO.out.slots.later eO.out).at hks;simp only[Value.slice.injEq,true_and]at e;obtain⟨rfl,rfl⟩:=e;have e0:=wQ 0 _ rfl;have e1:=wQ 1 _ rfl;have e2:=wQ 2 _ rfl;have e3:=wQ 3 _ rfl;simp only[Nat.add_zero]at e0;have hbl:b<wr.heap.size:=World.block_lt_of_cell? wr _ c0;have aaz:b'<wr.heap.size:=World.block_lt_of_cell? wr _ e0;have d2:wr.cell? ⟨w.heap.size,2,none⟩=some (.slice (some ⟨b',off',none⟩) ss.length eY):=by simp[World.cell?,hbr]
   have HAS:=ł (R9 ps ss k hlt hks);have lQ:=ł (RL ps ss k ps.length hlt hlt hks);simp only at c0 c1 c2 e0 e1 e2 e3;generalize _u:ps[k]=v at *;generalize hsx:ss[k]=sl at *;obtain⟨vs,vk,vl⟩:=v;obtain⟨xs,xk,xl,xt⟩:=sl;simp only at c0 c1 c2 e0 e1 e2 e3;have xW:=ł (IX xs vs);have iT:=ł (show zw ⟨vs,vk,vl⟩ ⟨xs,xk,xl,xt⟩=((xs == vs) && ((xk == vk) && (xl == vl)))from rfl);clear hcc wQ _u hsx hbr;by_cases n1:(xs.toList == vs.toList)=true
   · have m1:(xs.toList != vs.toList)=false:=by simp[bne,n1]
     by_cases n2:xk=vk
     · have m2:(xk != vk)=false:=by simp[n2]
       by_cases n3:xl=vl
       · have m3:(xl != vl)=false:=by simp[n3]
         have lS:=ł (show kJ ps ss (k+1)=true from by rw[HAS.out,QM.out,iT.out,← xW.out,n1];simp[n2,n3]);clear n2 n3;go_wp2_with fail
         go_roundw
         case rel=>exact⟨k+1,by go_num,by omega,(HG.out.alloc _).alloc _,lS.out⟩
         case measure=>simp[intOf];omega
       · have m3:(xl != vl)=true:=by simpa using n3
         have HF:=ł (show aA.bT ⟨s,ps,ss,cl,st,co,rf⟩=20 from by rw[Al.out,if_pos (lQ.out (by rw[iT.out];simp[n3]))]);clear n2 n3;go_wp2_with fail;go_ret;exact⟨dM (by rw[HF.out]),(eO.out.alloc _).alloc _⟩
     · have m2:(xk != vk)=true:=by simpa using n2
       have HF:=ł (show aA.bT ⟨s,ps,ss,cl,st,co,rf⟩=20 from by rw[Al.out,if_pos (lQ.out (by rw[iT.out];simp[n2]))]);clear n2;go_wp2_with fail;go_ret;exact⟨dM (by rw[HF.out]),(eO.out.alloc _).alloc _⟩
   · have n1':(xs.toList == vs.toList)=false:=by simpa using n1
     have m1:(xs.toList != vs.toList)=true:=by simp[bne,n1']
     have HF:=ł (show aA.bT ⟨s,ps,ss,cl,st,co,rf⟩=20 from by rw[Al.out,if_pos (lQ.out (by rw[iT.out,← xW.out,n1'];rfl))]);clear n1;go_wp2_with fail;go_ret;exact⟨dM (by rw[HF.out]),(eO.out.alloc _).alloc _⟩
 · obtain rfl:k=ps.length:=by omega
   have d5:wr.cell? ⟨w.heap.size,5,none⟩=some (.slice ca co.length bD):=by simp[World.cell?,hbr]
   have d6:wr.cell? ⟨w.heap.size,6,none⟩=some (.slice ra rf.length bI):=by simp[World.cell?,hbr]
   have HF:=ł (show aA.bT ⟨s,ps,ss,cl,st,co,rf⟩=(dR co rf).2 from by rw[Al.out,QM.out,if_neg (by simp)]);have lL:=ł (SQ _ _ co rf wr (HT.out.later eO.out) (HO.out.code.later eO.out) (HO.out.refs.later eO.out) (λx hx=>(HO.out.ok.code x hx).1));clear hbr;go_wp2_with fail;refine lL.out.mono ?_;rintro e w5 ⟨rfl,pJ⟩;have YB:=ł (Mv.trans eO.out pJ (λ_ e=>e.elim));clear pJ;go_wp2_with fail;go_ret;exact⟨dM (by rw[HF.out]),YB.out⟩
end Go.Proofs.YtadecgbblajifaaGreatDoor
