import Derived.Test.YtbpodipdfohikaaGreatK25
import Derived.OpenShut
import Derived.RangeFuncCalls
import Derived.OwnWalkIn
set_option linter.unusedSimpArgs false
set_option linter.unusedVariables false
set_option maxRecDepth 100000
set_option maxHeartbeats 25600000
namespace Go.Proofs.YtbpodipdfohikaaGreat
open Go.RowKit Go.Instr
theorem XP {n:Int} (h:(Lit.int .i64 n).wf=true):In64 n:=bounds_i64 h
theorem BK:In64 0:=⟨by decide,by decide⟩
theorem GH (op:BinOp) (x y:Int):In64 (bits op .i64 x y):=XP (wf_bits op .i64 x y)
theorem Bt (n:Int):In64 (wrap64 n):=by unfold In64 wrap64;omega
theorem sF (b:Bool):In64 (jH b):=by
 cases b
 · exact BK
 · exact⟨by decide,by decide⟩
theorem VC (k x:Int):In64 (nI k x).1:=by
 unfold nI
 split
 · exact Bt _
 · split
   · exact sF _
   · exact BK
theorem XQ {x y:Int} (h:In64 x):In64 (x.tmod y):=by
 unfold In64 at *
 have h1:(x.tmod y).natAbs<=x.natAbs:=by rw[Int.natAbs_tmod];exact Nat.mod_le _ _
 by_cases hx:0<=x
 · have:=Int.tmod_nonneg y hx;omega
 · have:x.tmod y<=0:=by
    have h2:=Int.neg_tmod (-x) y
    have h3:=Int.tmod_nonneg y (show 0 <= -x by omega)
    rw[Int.neg_neg]at h2
    omega
   omega
set_option maxHeartbeats 1600000 in
theorem VD (k x y:Int) (h:In64 x):In64 (bZ k x y).1:=by
 unfold bZ
 by_cases h8:k=8
 · rw[if_pos h8];exact Bt _
 rw[if_neg h8]
 by_cases h8:k=9
 · rw[if_pos h8];exact Bt _
 rw[if_neg h8]
 by_cases h8:k=10
 · rw[if_pos h8];exact Bt _
 rw[if_neg h8]
 by_cases h8:k=11
 · rw[if_pos h8];split;· exact BK
   exact Bt _
 rw[if_neg h8]
 by_cases h8:k=12
 · rw[if_pos h8];split;· exact BK
   exact XQ h
 rw[if_neg h8]
 by_cases h8:k=13
 · rw[if_pos h8];show In64 (bits BinOp.and IntKind.i64 x y);exact GH BinOp.and x y
 rw[if_neg h8]
 by_cases h8:k=14
 · rw[if_pos h8];show In64 (bits BinOp.or IntKind.i64 x y);exact GH BinOp.or x y
 rw[if_neg h8]
 by_cases h8:k=15
 · rw[if_pos h8];show In64 (bits BinOp.xor IntKind.i64 x y);exact GH BinOp.xor x y
 rw[if_neg h8]
 by_cases h8:k=16
 · rw[if_pos h8];exact sF _
 rw[if_neg h8]
 by_cases h8:k=17
 · rw[if_pos h8];exact sF _
 rw[if_neg h8]
 by_cases h8:k=18
 · rw[if_pos h8];exact sF _
 rw[if_neg h8]
 by_cases h8:k=19
 · rw[if_pos h8];exact sF _
 rw[if_neg h8]
 by_cases h8:k=20
 · rw[if_pos h8];exact sF _
 rw[if_neg h8]
 by_cases h8:k=21
 · rw[if_pos h8];exact sF _
 rw[if_neg h8]
 by_cases h8:k=22
 · rw[if_pos h8];exact sF _
 rw[if_neg h8]
 by_cases h8:k=23
 · rw[if_pos h8];exact sF _
 rw[if_neg h8]
 exact BK
theorem XR {k n:Int} {rs:List (Option Int)} (hn:In64 n) (h:∀ r∈rs,∀ v,r=some v->In64 v) {v:Int} (hv:pQ k n rs=some v):In64 v:=by
 unfold pQ at hv
 split at hv
 · cases hv;exact hn
 · split at hv
   · cases hv
   · split at hv
     · split at hv
       · cases hv;exact VC _ _
       · cases hv
     · next x y =>
       split at hv
       · cases hv;exact VD _ _ _ (h _ (by simp) x rfl)
       · cases hv
     · cases hv
theorem WR {w:World} {x:ae} (h:bD w x):∀ v,iK x.t=some v->In64 v:=by
 induction h with
 |mk hk hn hs row each ih =>
  intro v hv
  rw[ae.t,MG,LP]at hv
  refine XR hn (λr hr u hu => ?_) hv
  obtain⟨t,ht,rfl⟩:=List.mem_map.1 hr
  obtain⟨i,hi,rfl⟩:=List.getElem_of_mem ht
  rw[ae.bX]at hi
  rw[ae.jw _ i hi]at hu
  exact ih _ (List.getElem_mem hi) u hu
theorem XT {k n:Int} {s:ByteArray} {l:List Tree} (h:aJ (.mk k n s l)=true):xJ k l.length/\∀ t∈l,aJ t=true:=by
 have hall:∀ l:List Tree,kS l=true->∀ t∈l,aJ t=true:=λl=>by
  induction l with
  |nil=>intro _ t ht;cases ht
  |cons a l ih =>
   intro h t ht
   rw[kS,Bool.and_eq_true]at h
   rcases List.mem_cons.1 ht with rfl|ht
   · exact h.1
   · exact ih h.2 t ht
 rw[aJ]at h
 unfold xJ
 split at h
 · next hk =>
   simp only[Bool.and_eq_true,List.isEmpty_iff]at h
   obtain⟨-,-,rfl⟩:=h
   exact⟨.inl ⟨hk,rfl⟩,by simp⟩
 · split at h
   · next hk =>
     simp only[Bool.and_eq_true,List.isEmpty_iff]at h
     obtain⟨-,rfl⟩:=h
     exact⟨.inr (.inl ⟨by omega,by simp⟩),by simp⟩
   · split at h
     · next hk =>
       simp only[Bool.and_eq_true,beq_iff_eq]at h
       exact⟨.inr (.inl ⟨by omega,by omega⟩),hall _ h.2.2⟩
     · split at h
       · next hk =>
         simp only[Bool.and_eq_true,beq_iff_eq]at h
         exact⟨.inr (.inr (.inl ⟨hk,h.2.1⟩)),hall _ h.2.2⟩
       · split at h
         · next hk =>
           simp only[Bool.and_eq_true,beq_iff_eq]at h
           exact⟨.inr (.inr (.inr ⟨hk,h.2.1⟩)),hall _ h.2.2⟩
         · cases h
set_option maxRecDepth 100000 in
set_option maxHeartbeats 12800000 in
theorem WS:∀ (M:Nat) (x:ae),SizeOf.sizeOf x<=M->∀ (w:World),bD w x->aJ x.t=true->Calls Tryz.prog 143 #[x.val] w (EE w (iK x.t)):=by
 intro M
 induction M with
 |zero=>intro x hm;cases x;simp at hm
 |succ M ih =>
  intro x hm w hx he
  have lG:=Lib.hid (WR hx)
  obtain⟨k,n,s,kv,l⟩:=x
  rw[ae.t]at he lG ⊢
  obtain⟨hsh,Q0⟩:=XT he
  rw[ae.bX]at hsh
  have hl2:l.length<=2:=by unfold xJ at hsh;omega
  obtain⟨ka,kc,rfl,hkc,hkl⟩:=hx.form
  have hrow:=hx.row.2.2.2.1
  have qW:=hx.row.2.2.2.2
  have Q3:=Lib.hid (λz (hz:Grow w z)=>WN (.slice ka l.length kc) l z (hrow.later hz) (λy hy=>(qW y hy).later hz) (by omega) (λy hy u hu=>by
   obtain⟨i,hi,rfl⟩:=List.getElem_of_mem hy
   exact ih l[i] (Nat.le_of_lt_succ (Nat.lt_of_lt_of_le (rX (k:=k) (n:=n) (s:=s) (kv := .slice ka l.length kc) (List.getElem_mem hi)) hm)) u ((qW _ hy).later (gtr hz hu)) (by
    have:=Q0 l[i].t (by rw[← ae.jw l i hi];exact List.getElem_mem _)
    exact this)))
  have OZ:=Lib.hid (λz (fa:Option Addr) (fc:Nat) (fl:List bU) (hf:ay 6 bU.cells z (.slice fa fl.length fc) fl) (hfl:fl.length=l.length)=>VB k n s ka l.length kc fa fc fl z hf (by rw[hfl];exact hsh))
  have HQ:=Lib.hid (show ∀ fl:List bU,fl.map bU.r=l.map (λx=>iK x.t)->pQ k n (fl.map bU.r)=iK (.mk k n s (ae.ts l))from λfl hfl=>by
   rw[MG,LP,hfl]
   congr 1
   apply List.ext_getElem
   · simp[ae.bX]
   · intro i h1 h2
     have hi:i<l.length:=by simpa using h1
     simp[ae.jw l i hi])
  obtain⟨R,hR⟩:∃ R,R=iK (.mk k n s (ae.ts l)):=⟨_,rfl⟩
  rw[← hR]at HQ lG ⊢
  have hg1:Grow w ((w.alloc (.cells #[.int .u8 k,.int .i64 n,.string s,.slice ka l.length kc] 40)).alloc (.cells #[.int .u8 0,.int .i64 0,.string ⟨#[]⟩,.slice none 0 0,.int .i64 0,.bool false] 175)):=((Mv.refl _ w).alloc _).alloc _
  have hb1:=bS (heap_alloc_new w (.cells #[.int .u8 k,.int .i64 n,.string s,.slice ka l.length kc] 40)) (.cells #[.int .u8 0,.int .i64 0,.string ⟨#[]⟩,.slice none 0 0,.int .i64 0,.bool false] 175)
  have hb2:=heap_alloc_new (w.alloc (.cells #[.int .u8 k,.int .i64 n,.string s,.slice ka l.length kc] 40)) (.cells #[.int .u8 0,.int .i64 0,.string ⟨#[]⟩,.slice none 0 0,.int .i64 0,.bool false] 175)
  rw[World.size_alloc]at hb2
  clear hR hx he hsh Q0 hrow qW ih hm
  simp only[ae.val]
  have key:Calls Tryz.prog 143 #[.agg #[.int .u8 k,.int .i64 n,.string s,.slice ka l.length kc]] w (EE w R):=by
   go_enter Tryz.func143,Tryz.ntmps143
   go_upto_region 1 with fail
   generalize ((w.alloc (.cells #[.int .u8 k,.int .i64 n,.string s,.slice ka l.length kc] 40)).alloc (.cells #[.int .u8 0,.int .i64 0,.string ⟨#[]⟩,.slice none 0 0,.int .i64 0,.bool false] 175))=w1 at *
   obtain⟨⟨n0,n1⟩,n2,n3⟩:=az hb1
   have hbl:=lt_of_block hb1
   have HC:=Lib.hid (Q3.out w1 hg1)
   go_wp2_with fail
   refine HC.out.mono ?_
   rintro e w2 ⟨fa,fc,fl,rfl,hfl,hrow,hmap,hg⟩
   have HV:=Lib.hid (OZ.out w2 fa fc fl (dW EA hrow) hfl)
   rw[HQ.out fl hmap]at HV
   have HF:=Lib.hid (dW EA hrow)
   have nY:fl.length<=2:=by omega
   have HG2:=Lib.hid (gtr hg1 hg)
   have HB2:=Lib.hid (And.intro (ah hb1 hg) (ah hb2 hg))
   clear hfl hrow hmap hg hg1 hb1 hb2 n0 n1 n2 n3 hbl HC OZ Q3 HQ
   obtain⟨⟨n0,n1⟩,n2,n3⟩:=az HB2.out.1
   have hbl:=lt_of_block HB2.out.1
   go_wp2_with fail
   refine HV.out.mono ?_
   rintro e w3 ⟨rfl,hg⟩
   have aA:=Lib.hid (gtr HG2.out hg)
   have HB3:=Lib.hid (And.intro (ah HB2.out.1 hg) (ah HB2.out.2 hg))
   have Ar:=Lib.hid (HF.out.later hg)
   clear hg HV HF HG2 HB2 n0 n1 n2 n3 hbl
   cases R with
   |some v =>
    have HLI:=Lib.hid (TY v w3 (lG.out v rfl))
    simp only[Option.getD_some,Option.isSome_some]
    go_wp2_with fail
    refine HLI.out.mono ?_
    rintro e w4 ⟨k1,n1,s1,a1,m1,c1,rfl,hg⟩
    have bA:=Lib.hid (gtr aA.out hg)
    have bY:=Lib.hid (ah HB3.out.2 hg)
    have ji:=Lib.hid (Ch bY.out (.int .u8 k1) (.int .i64 n1) (.string s1) (.slice a1 m1 c1) (.int .i64 v) (.bool true))
    obtain⟨⟨d0,d1,d2⟩,d3,d4,d5⟩:=bI bY.out
    have hbl:=lt_of_block bY.out
    have zt:=bB bY.out
    clear hg
    go_wp2_with fail
    obtain⟨⟨t0,t1,t2⟩,t3,t4,t5⟩:=bI ji.out.1
    exact bodyPost_ret (v := .agg #[.int .u8 k1,.int .i64 n1,.string s1,.slice a1 m1 c1,.int .i64 v,.bool true]) (by simp[results,Tryz.results143,go_sem,t0,t1,t2,t3,t4,t5]) rfl ⟨_,_,_,_,_,_,rfl,bM bA.out ji.out.2 (λb e=>by omega)⟩
   |none =>
    have HE2:=Lib.hid (Vv fa fc fl w3 Ar.out (by omega))
    simp only[Option.getD_none,Option.isSome_none]
    go_wp2_with fail
    refine HE2.out.mono ?_
    rintro e w4 ⟨a1,m1,c1,rfl,hg⟩
    have bA:=Lib.hid (gtr aA.out hg)
    have bY:=Lib.hid (And.intro (ah HB3.out.1 hg) (ah HB3.out.2 hg))
    have hbk:=block_setCell (p:=⟨w.heap.size,3,none⟩) bY.out.1 rfl (.slice a1 m1 c1)
    have hmv:=(Mv.refl (λb=>b=w.heap.size) w4).setCell (p:=⟨w.heap.size,3,none⟩) (.inl rfl) (.slice a1 m1 c1)
    have hb5:=(hmv.block _ (lt_of_block bY.out.2) (by omega)).trans bY.out.2
    have eH:=Lib.hid (And.intro (show(w4.setCell ⟨w.heap.size,3,none⟩ (.slice a1 m1 c1)).heap[w.heap.size]? = some (.cells #[.int .u8 k,.int .i64 n,.string s,.slice a1 m1 c1] 40 (0,0))from by simpa using hbk) hb5)
    have bG:=Lib.hid (bM bA.out hmv (λb e=>by omega))
    have O0:=lt_of_block bY.out.1
    have zt4:=bB bY.out.1
    obtain⟨⟨n0,n1⟩,n2,n3⟩:=az bY.out.1
    clear hg hbk hmv hb5 HE2
    go_upto_region 6 with fail
    generalize w4.setCell ⟨w.heap.size,3,none⟩ (.slice a1 m1 c1)=w5 at *
    clear n0 n1 n2 n3 O0 zt4
    have ji:=Lib.hid (Ch eH.out.2 (.int .u8 k) (.int .i64 n) (.string s) (.slice a1 m1 c1) (.int .i64 0) (.bool false))
    obtain⟨⟨n0,n1⟩,n2,n3⟩:=az eH.out.1
    obtain⟨⟨d0,d1,d2⟩,d3,d4,d5⟩:=bI eH.out.2
    have hbl:=lt_of_block eH.out.2
    have O0:=lt_of_block eH.out.1
    have zt:=bB eH.out.2
    go_wp2_with fail
    obtain⟨⟨t0,t1,t2⟩,t3,t4,t5⟩:=bI ji.out.1
    exact bodyPost_ret (v := .agg #[.int .u8 k,.int .i64 n,.string s,.slice a1 m1 c1,.int .i64 0,.bool false]) (by simp[results,Tryz.results143,go_sem,t0,t1,t2,t3,t4,t5]) rfl ⟨_,_,_,_,_,_,rfl,bM bG.out ji.out.2 (λb e=>by omega)⟩
  exact key
theorem WT (x:ae) (w:World) (hx:bD w x) (he:aJ x.t=true):Calls Tryz.prog 143 #[x.val] w (EE w (iK x.t)):=WS _ x (Nat.le_refl _) w hx he
def lS (t:Tree):Option Int:=if aJ t then iK t else none
set_option maxRecDepth 100000 in
set_option maxHeartbeats 6400000 in
theorem VE (x:ae) (w:World) (hx:bD w x):Calls Tryz.prog 128 #[x.val] w (EY w (lS x.t)):=by
 have HIS:=Lib.hid (λz (hz:Grow w z)=>rY x z (hx.later hz))
 have Q4:=Lib.hid (λz (hz:Grow w z) (h:aJ x.t=true)=>WT x z (hx.later hz) h)
 have ik:=Lib.hid (show lS x.t=if aJ x.t then iK x.t else none from rfl)
 obtain⟨R,hR⟩:∃ R,R=lS x.t:=⟨_,rfl⟩
 rw[← hR]at ik ⊢
 clear hR
 obtain⟨k,n,s,kv,l⟩:=x
 obtain⟨ka,kc,rfl,-,-⟩:=hx.form
 have aj:=Lib.hid (show Grow w (w.alloc (.cells #[.int .u8 k,.int .i64 n,.string s,.slice ka l.length kc] 40))from(Mv.refl _ _).alloc _)
 have HB1:=Lib.hid (heap_alloc_new w (.cells #[.int .u8 k,.int .i64 n,.string s,.slice ka l.length kc] 40))
 clear hx
 simp only[ae.val]at HIS Q4 ⊢
 generalize ae.t (.mk k n s (.slice ka l.length kc) l)=T at *
 go_enter Tryz.func128,Tryz.ntmps128
 go_upto_region 1 with fail
 generalize (w.alloc (.cells #[.int .u8 k,.int .i64 n,.string s,.slice ka l.length kc] 40))=w1 at *
 obtain⟨⟨n0,n1⟩,n2,n3⟩:=az HB1.out
 have hbl:=lt_of_block HB1.out
 go_wp2_with fail
 refine(HIS.out _ aj.out).mono ?_
 rintro e w2 ⟨rfl,hg⟩
 have HG2:=Lib.hid (gtr aj.out hg)
 have HB2:=Lib.hid (ah HB1.out hg)
 clear hg n0 n1 n2 n3 hbl
 obtain⟨⟨n0,n1⟩,n2,n3⟩:=az HB2.out
 have hbl:=lt_of_block HB2.out
 cases hb:aJ T with
 |false =>
  rw[hb]at ik
  go_wp2_with fail
  go_ret2
  rw[ik.out]
  exact⟨rfl,HG2.out⟩
 |true =>
  rw[hb]at ik
  have HF:=Lib.hid (Q4.out w2 HG2.out hb)
  generalize iK T=Q at *
  have HRQ:=Lib.hid (show R=Q from ik.out)
  go_wp2_with fail
  refine HF.out.mono ?_
  rintro e w3 ⟨k1,n1',s1,a1,m1,c1,rfl,hg⟩
  have aA:=Lib.hid (gtr HG2.out (gtr hg ((Mv.refl (λ_=>False) w3).alloc (.cells #[.int .u8 k1,.int .i64 n1',.string s1,.slice a1 m1 c1,.int .i64 (Q.getD 0),.bool Q.isSome] 175))))
  have hb3:=heap_alloc_new w3 (.cells #[.int .u8 k1,.int .i64 n1',.string s1,.slice a1 m1 c1,.int .i64 (Q.getD 0),.bool Q.isSome] 175)
  obtain⟨⟨d0,d1,d2⟩,d3,d4,d5⟩:=bI hb3
  have hl3:=lt_of_block hb3
  have HQ:=Lib.hid (show EY w Q (.returned (.tuple #[.int .i64 (Q.getD 0),.bool Q.isSome])) (w3.alloc (.cells #[.int .u8 k1,.int .i64 n1',.string s1,.slice a1 m1 c1,.int .i64 (Q.getD 0),.bool Q.isSome] 175)).drew from⟨rfl,aA.out.drew⟩)
  clear hg hb3 HF ik
  go_wp2_with fail
  go_region
  go_wp2_with fail
  go_ret2
  rw[HRQ.out]
  exact HQ.out
set_option maxRecDepth 100000 in
theorem Gf (x:ae) (w:World) (hx:bD w x):Calls Tryz.prog 109 #[x.val] w (eP w (lS x.t).isSome):=by
 have HC:=Lib.hid (λz (hz:Grow w z)=>VE x z (hx.later hz))
 obtain⟨k,n,s,kv,l⟩:=x
 obtain⟨ka,kc,rfl,-,-⟩:=hx.form
 have aj:=Lib.hid (show Grow w (w.alloc (.cells #[.int .u8 k,.int .i64 n,.string s,.slice ka l.length kc] 40))from(Mv.refl _ _).alloc _)
 have HB1:=Lib.hid (heap_alloc_new w (.cells #[.int .u8 k,.int .i64 n,.string s,.slice ka l.length kc] 40))
 clear hx
 simp only[ae.val]at HC ⊢
 generalize lS (ae.t (.mk k n s (.slice ka l.length kc) l))=Q at *
 go_enter Tryz.func109,Tryz.ntmps109
 go_upto_region 1 with fail
 generalize (w.alloc (.cells #[.int .u8 k,.int .i64 n,.string s,.slice ka l.length kc] 40))=w1 at *
 obtain⟨⟨n0,n1⟩,n2,n3⟩:=az HB1.out
 have hbl:=lt_of_block HB1.out
 go_wp2_with fail
 refine(HC.out _ aj.out).mono ?_
 rintro e w2 ⟨rfl,hg⟩
 have HG2:=Lib.hid (gtr aj.out hg)
 clear hg
 go_wp2_with fail
 go_ret
 exact⟨rfl,HG2.out⟩
attribute [local go_sem] Oper.semAt_some
def ve (s:ByteArray) (t:Tree):Bool:=(t.kind == 2 || t.kind == 3 || t.kind == 4 || t.kind == 5) && t.name == s
def tN (s:ByteArray) (t:Tree):Bool:=(bO t).any (ve s)
def vI (_:Nat) (t:TypeId):Bool:=t == 4
theorem VF (n0:Nat):qQ vI n0:=⟨λ_=>rfl,λ_ _=>rfl,λ_=>rfl,λ_=>rfl,λ_=>rfl⟩
structure yN (w:World) (u:ByteArray) (pre:List (Value × ae)) (W:World):Prop where
 s:W.heap[w.heap.size+1]? = some (.cells #[.string u] 9 (0,0))
 x:W.heap[w.heap.size+1+1]? = some (.cells #[.bool false] 4 (0,0))
 g:Grow w W
 n:(came pre).any (ve u)=false
structure Ct (w:World) (s:ByteArray) (c:Code) (pre:List (Value × ae)) (W:World):Prop where
 c:c = .ret
 x:W.heap[w.heap.size+1+1]? = some (.cells #[.bool true] 4 (0,0))
 g:Grow w W
 n:(came pre).any (ve s)=true
theorem BH {Ts:Nat->TypeId->Bool} {B:Nat} {X Y:World} (hm:nU Ts B X Y) {b:Nat} {o:Obj} (h:X.heap[b]? = some o) (hb:b<B):Y.heap[b]? = some o:=(hm.block b (lt_of_block h) (λe=>e (.inl hb))).trans h
theorem Hm {Ts:Nat->TypeId->Bool} {B:Nat} {w X Y:World} (hm:nU Ts B X Y) (h:Grow w X) (hB:w.heap.size<=B):Grow w Y:=Mv.trans h hm (λb e => .inr (by
 rcases Nat.lt_or_ge b B with h1|h1
 · exact(e (.inl h1)).elim
 · omega))
theorem yN.it {w:World} {s:ByteArray} {pre:List (Value × ae)} {W Y:World} {Ts:Nat->TypeId->Bool} {B:Nat} (h:yN w s pre W) (hm:nU Ts B W Y) (hw:w.heap.size+1+1<B):yN w s pre Y :=
 ⟨BH hm h.s (by omega),BH hm h.x hw,Hm hm h.g (by omega),h.n⟩
theorem Ct.it {w:World} {s:ByteArray} {c:Code} {pre:List (Value × ae)} {W Y:World} {Ts:Nat->TypeId->Bool} {B:Nat} (h:Ct w s c pre W) (hm:nU Ts B W Y) (hw:w.heap.size+1+1<B):Ct w s c pre Y :=
 ⟨h.c,BH hm h.x hw,Hm hm h.g (by omega),h.n⟩
theorem WU (s:ByteArray) (ys:List (Value × ae)) (z:Value × ae):((came (ys ++ [z])).any (ve s))=(((came ys).any (ve s)) || ve s z.2.t):=by simp[came]
set_option maxRecDepth 100000 in
set_option maxHeartbeats 12800000 in
theorem KE (x:ae) (s:ByteArray) (w:World) (hx:bD w x) (hsz:bL x.t<=900000):Calls Tryz.prog 105 #[x.val,.string s] w (eP w (tN s x.t)):=by
 have yO:=Lib.hid (show tN s x.t=(bO x.t).any (ve s)from rfl)
 obtain⟨R,hR⟩:∃ R,R=tN s x.t:=⟨_,rfl⟩
 rw[← hR]at yO ⊢
 clear hR
 obtain⟨k,n,q,kv,l⟩:=x
 obtain⟨ka,kc,rfl,-,-⟩:=hx.form
 have hg2:Grow w (((w.alloc (.cells #[.int .u8 k,.int .i64 n,.string q,.slice ka l.length kc] 40)).alloc (.cells #[.string s] 9)).alloc (.cells #[.bool false] 4)):=(((Mv.refl _ w).alloc _).alloc _).alloc _
 have HG2:=Lib.hid hg2
 have HB2:=Lib.hid (show(((w.alloc (.cells #[.int .u8 k,.int .i64 n,.string q,.slice ka l.length kc] 40)).alloc (.cells #[.string s] 9)).alloc (.cells #[.bool false] 4)).heap[w.heap.size]? = some (.cells #[.int .u8 k,.int .i64 n,.string q,.slice ka l.length kc] 40 (0,0))from bS (bS (heap_alloc_new w _) _) _)
 have HS2:=Lib.hid (show(((w.alloc (.cells #[.int .u8 k,.int .i64 n,.string q,.slice ka l.length kc] 40)).alloc (.cells #[.string s] 9)).alloc (.cells #[.bool false] 4)).heap[w.heap.size+1]? = some (.cells #[.string s] 9 (0,0))from bS (by have:=heap_alloc_new (w.alloc (.cells #[.int .u8 k,.int .i64 n,.string q,.slice ka l.length kc] 40)) (.cells #[.string s] 9);rwa[World.size_alloc]at this) _)
 have fo:=Lib.hid (show(((w.alloc (.cells #[.int .u8 k,.int .i64 n,.string q,.slice ka l.length kc] 40)).alloc (.cells #[.string s] 9)).alloc (.cells #[.bool false] 4)).heap[w.heap.size+1+1]? = some (.cells #[.bool false] 4 (0,0))from by have:=heap_alloc_new ((w.alloc (.cells #[.int .u8 k,.int .i64 n,.string q,.slice ka l.length kc] 40)).alloc (.cells #[.string s] 9)) (.cells #[.bool false] 4);rwa[World.size_alloc,World.size_alloc]at this)
 have IG:=Lib.hid (show(((w.alloc (.cells #[.int .u8 k,.int .i64 n,.string q,.slice ka l.length kc] 40)).alloc (.cells #[.string s] 9)).alloc (.cells #[.bool false] 4)).heap.size=w.heap.size+3 from by simp)
 have yP:=Lib.hid (λ(z:World) (hz:Grow w z)=>Mt _ z (hx.later hz) hsz)
 have uB:=Lib.hid hsz
 simp only[ae.val]at yP ⊢
 clear hx hg2 hsz
 refine KJ Tryz.func105 rfl ?_
 simp only[Tryz.ntmps105,List.size_toArray,List.length_cons,List.length_nil,Nat.reduceAdd,Nat.reduceSub,Array.replicate_succ,Array.replicate_zero,List.push_toArray,List.append_toArray,List.nil_append,List.cons_append]
 go_upto_region 1 with fail
 generalize (((w.alloc (.cells #[.int .u8 k,.int .i64 n,.string q,.slice ka l.length kc] 40)).alloc (.cells #[.string s] 9)).alloc (.cells #[.bool false] 4))=w2 at *
 obtain⟨⟨n0,n1⟩,n2,n3⟩:=az HB2.out
 have hl0:=lt_of_block HB2.out
 go_wp2_with fail
 refine(yP.out _ HG2.out).mono ?_
 clear yP n0 n1 n2 n3 hl0
 rintro e w3 ⟨Rb,z,rfl,hrb,hno,rJ,hg3⟩
 have aA:=Lib.hid (gtr HG2.out hg3)
 have oh:=Lib.hid (show w.heap.size+3<=w3.heap.size from by have h1:=IG.out;have h2:=hg3.size;omega)
 have HI0:=Lib.hid (show yN w s [] w3 from⟨ah HS2.out hg3,ah fo.out hg3,aA.out,rfl⟩)
 have yt:=Lib.hid (Wo vI Rb z w3 (VF _) hrb hno (by rw[rJ];exact uB.out))
 rw[rJ]at yt
 clear hrb hno hg3 rJ
 go_wp2_with fail
 refine Ta vI (gf:=102) (lb:=#[.pointer (some ⟨Rb,0,none⟩)]) rfl (enters_of Tryz.func102 (by kernel_rfl) rfl) yt.out (Mv.refl _ _) (λ_=>rfl)
  (yN w s) (Ct w s) (λpre X Y hi hm=>hi.it hm (by have:=oh.out;omega)) (λc pre X Y hi hm=>hi.it hm (by have:=oh.out;omega)) HI0.out
  (λa x a' W=>∃ b,W.heap[b]? = some (.cells x.2.fix.cells.toArray 40 (0,0))/\a' = { tmps:=((a.tmps.setIfInBounds 9 x.1).setIfInBounds 10 x.2.fix.val).setIfInBounds 6 (.pointer (some ⟨b,0,none⟩)),defers:=[] }) ?hAx ?assign ?body ?done ?stop
 case hAx =>
  rintro x a' X l' o o' ⟨b,hb,rfl⟩ hl' ho
  exact⟨b,by rw[World.putObj_heap_other (λe=>by subst e;rw[hb]at hl';cases hl';cases ho)];exact hb,rfl⟩
 case assign =>
  intro l' pre x W K hi hK
  obtain⟨xp,xn⟩:=x
  obtain⟨zk,zn,zs,za,zm,zc,zl,hfx,hft⟩:=ae.GV xn
  simp only[hfx]at hK ⊢
  have HK:=Lib.hid (hK _ (W.alloc (.cells #[.int .u8 zk,.int .i64 zn,.string zs,.slice za zm zc] 40)) ((Mv.refl _ _).alloc _) (yN.it (Ts:=vI) (B:=w3.heap.size) hi ((Mv.refl _ _).alloc _) (by have:=oh.out;omega)) ⟨W.heap.size,heap_alloc_new W _,rfl⟩)
  clear hK hi
  simp only[ae.val]
  simp only[List.setIfInBounds_toArray,List.set_cons_zero,List.set_cons_succ,ae.val]at HK
  gi_wp2
  exact HK.out
 case body =>
  rintro l' pre x a' W hi ⟨b,hb,rfl⟩ hsp
  obtain⟨xp,xn⟩:=x
  obtain⟨zk,zn,zs,za,zm,zc,zl,hfx,hft⟩:=ae.GV xn
  simp only[hfx,ae.val,ae.cells]at hb ⊢
  obtain⟨⟨n0,n1⟩,n2,n3⟩:=az hb
  have hlb:=lt_of_block hb
  have HI:=Lib.hid hi
  have HAS:=Lib.hid (show((came (pre ++ [(xp,xn)])).any (ve s))=((zk == 2 || zk == 3 || zk == 4 || zk == 5) && zs == s)from by rw[WU,hft,hi.n];rfl)
  clear hb hsp
  simp only[List.setIfInBounds_toArray,List.set_cons_zero,List.set_cons_succ]
  have s0:=cell1 hi.s
  have hls:=lt_of_block hi.s
  have dC:=Lib.hid (show((zk == 2 || zk == 3 || zk == 4 || zk == 5) && zs == s)=false->bodyPostC vI w3.heap.size (yN w s) (Ct w s) (pre ++ [(xp,xn)]) W .normal { tmps:=#[],defers:=[] } W from λh=>⟨Mv.refl _ _,hi.s,hi.x,hi.g,by rw[HAS.out];exact h⟩)
  have x0:=cell1 hi.x
  have hlx:=lt_of_block hi.x
  have zx:=bB hi.x
  obtain⟨hs1,hs2⟩:=set1 hi.x (.bool true)
  have jN:=Lib.hid hs1
  have fD:=Lib.hid (show Grow w _ from bM hi.g hs2 (λb e=>by omega))
  have Ay:=Lib.hid (show oZ vI w3.heap.size W _ from(hs2.mono (λb e => .inl (show ¬ (wU vI W b\/(w3.heap.size<=b/\Ew W b))from by
   rintro(⟨cs,t,z,hc,ht⟩|⟨hb,-⟩)
   · rw[e,hi.x]at hc;simp at hc;rw[← hc.2.1]at ht;simp[vI]at ht
   · have:=oh.out;omega))))
  have HIS:=Lib.hid hi.s
  have qh:=Lib.hid hi.x
  have HIG:=Lib.hid hi.g
  clear hs1 hs2 hi hft hfx
  rcases(show(zk == 2)=true\/((zk == 2)=false/\(zk == 3)=true)\/((zk == 2)=false/\(zk == 3)=false/\(zk == 4)=true)\/((zk == 2)=false/\(zk == 3)=false/\(zk == 4)=false/\(zk == 5)=true)\/((zk == 2)=false/\(zk == 3)=false/\(zk == 4)=false/\(zk == 5)=false)from by
   rcases Bool.eq_false_or_eq_true (zk == 2)with h|h <;> rcases Bool.eq_false_or_eq_true (zk == 3)with h' | h' <;> rcases Bool.eq_false_or_eq_true (zk == 4)with h'' | h'' <;> rcases Bool.eq_false_or_eq_true (zk == 5)with O3|O3 <;> simp[h,h',h'',O3])with c1|⟨c1,c2⟩|⟨c1,c2,c3⟩|⟨c1,c2,c3,c4⟩|⟨c1,c2,c3,c4⟩
  case inr.inr.inr.inr =>
   have HF:=dC.out (by simp[c1,c2,c3,c4])
   have HFF:=Lib.hid HF
   clear HF dC
   gi_wp2
   exact HFF.out
  all_goals
   clear dC
   gi_wp2
   all_goals rename_i hq
   all_goals rw[Lu]at hq
   · exact⟨Ay.out,rfl,jN.out,fD.out,by rw[HAS.out];simp[c1,hq, *]⟩
   · exact⟨Mv.refl _ _,HIS.out,qh.out,HIG.out,by rw[HAS.out,hq];simp⟩
 case done =>
  intro D xs W hD hS hi hK
  have dh:R=false:=by rw[yO.out,← hS];exact hi.n
  subst dh
  have x0:=cell1 hi.x
  have hlx:=lt_of_block hi.x
  have zx:=bB hi.x
  obtain⟨hs1,hs2⟩:=set1 hi.x (.bool false)
  have jN:=Lib.hid hs1
  have fD:=Lib.hid (show Grow w _ from bM hi.g hs2 (λb e=>by omega))
  have hne:w.heap.size+1+1≠D:=by have:=oh.out;omega
  have iC:=Lib.hid ((hs2.block D (lt_of_block hK) (λe=>hne e.symm)).trans hK)
  clear hs1 hs2 hK hS hi
  go_wp2_with fail
  have g1:=(World.putObj_heap_other (o := .deferred none) hne).trans jN.out
  have t0:=cell1 g1
  refine Gq iC.out (v := .bool false) (by simp[results,Tryz.results105,go_sem,t0]) rfl ⟨rfl,?_⟩
  exact Mv.trans fD.out (Mv.putObj (O:=λb=>b=D) _ D _ rfl) (λb e => .inr (by subst e;have:=oh.out;omega))
 case stop =>
  rintro D c xs W hD hS ⟨rfl,hx,hgw,hn⟩ hK
  have eQ:R=true:=by
   rw[yO.out]
   obtain⟨t,ht,hk⟩:=List.any_eq_true.1 hn
   exact List.any_eq_true.2 ⟨t,hS.subset ht,hk⟩
  subst eQ
  have jN:=Lib.hid hx
  have fD:=Lib.hid hgw
  have hne:w.heap.size+1+1≠D:=by have:=oh.out;omega
  have iC:=Lib.hid hK
  clear hx hgw hn hK hS
  go_wp2_with fail
  have g1:=(World.putObj_heap_other (o := .deferred none) hne).trans jN.out
  have t0:=cell1 g1
  refine Gq iC.out (v := .bool true) (by simp[results,Tryz.results105,go_sem,t0]) rfl ⟨rfl,?_⟩
  exact Mv.trans fD.out (Mv.putObj (O:=λb=>b=D) _ D _ rfl) (λb e => .inr (by subst e;have:=oh.out;omega))
def ig (s:ByteArray) (t:Tree):Bool:=t.kind == 3 && tN s (t.kids.getD 0 (.mk 0 0 ⟨#[]⟩ []))
set_option maxRecDepth 100000 in
set_option maxHeartbeats 12800000 in
theorem KM (x:ae) (s:ByteArray) (w:World) (hx:bD w x) (hsz:bL x.t<=900000) (hk:x.t.kind=3->x.t.kids≠[]):Calls Tryz.prog 104 #[x.val,.string s] w (eP w (ig s x.t)):=by
 obtain⟨k,n,q,kv,l⟩:=x
 obtain⟨ka,kc,rfl,-,-⟩:=hx.form
 have aj:=Lib.hid (show Grow w (w.alloc (.cells #[.int .u8 k,.int .i64 n,.string q,.slice ka l.length kc] 40))from(Mv.refl _ _).alloc _)
 have HB1:=Lib.hid (heap_alloc_new w (.cells #[.int .u8 k,.int .i64 n,.string q,.slice ka l.length kc] 40))
 have ZL:=lt_of_block HB1.out
 rcases Bool.eq_false_or_eq_true (k == 3)with h3|h3
 · cases l with
   |nil=>exact absurd rfl (hk (show k=3 from by simpa using h3))
   |cons y r =>
    have df:=Lib.hid (show ig s (ae.t (.mk k n q (.slice ka (y :: r).length kc) (y :: r)))=tN s y.t from by
     rw[ig,show(ae.t (.mk k n q (.slice ka (y :: r).length kc) (y :: r))).kind=k from rfl,h3];rfl)
    rw[df.out]
    have HM:=Lib.hid (λz (hz:Grow w z)=>KE y s z ((hx.row.2.2.2.2 y (List.mem_cons_self ..)).later hz) (by
     have h:bL y.t<=eX (ae.ts (y :: r)):=Ed (by simp[ae.jv])
     simp only[ae.t,bL]at hsz;omega))
    generalize tN s y.t=R at *
    obtain⟨b,off,cap',e,_,hcc⟩:=(hx.row.2.2.2.1.later aj.out).at (i:=0) (by simp)
    simp only[Value.slice.injEq,true_and]at e
    obtain⟨rfl,rfl⟩:=e
    have Q5:=hx.row.2.2.2.2 y (List.mem_cons_self ..)
    obtain⟨yk,yn,ys,yQ,yl⟩:=y
    obtain⟨ya,acn,rfl,-,-⟩:=Q5.form
    simp only[ae.val]at HM ⊢
    have c0:=hcc 0 _ rfl
    have c1:=hcc 1 _ rfl
    have c2:=hcc 2 _ rfl
    have c3:=hcc 3 _ rfl
    simp only[Nat.zero_mul,Nat.add_zero,List.length_cons]at c0 c1 c2 c3 HB1 aj ZL HM ⊢
    clear hcc Q5 hx hk hsz df
    go_enter Tryz.func104,Tryz.ntmps104
    go_upto_region 1 with fail
    generalize (w.alloc (.cells #[.int .u8 k,.int .i64 n,.string q,.slice (some ⟨b,off,none⟩) (r.length+1) kc] 40))=w1 at *
    have hbl:b<w1.heap.size:=World.block_lt_of_cell? w1 _ c0
    obtain⟨⟨n0,n1⟩,n2,n3⟩:=az HB1.out
    have HM1:=Lib.hid (HM.out _ aj.out)
    clear HM
    go_wp2_with fail
    refine HM1.out.mono ?_
    rintro e w2 ⟨rfl,hg⟩
    have HG2:=Lib.hid (gtr aj.out hg)
    clear hg
    go_wp2_with fail
    go_ret
    exact⟨rfl,HG2.out⟩
 · have df:=Lib.hid (show ig s (ae.t (.mk k n q (.slice ka l.length kc) l))=false from by
    rw[ig,show(ae.t (.mk k n q (.slice ka l.length kc) l)).kind=k from rfl,h3];rfl)
   rw[df.out]
   simp only[ae.val]
   clear hx hk hsz df
   go_enter Tryz.func104,Tryz.ntmps104
   go_upto_region 1 with fail
   generalize (w.alloc (.cells #[.int .u8 k,.int .i64 n,.string q,.slice ka l.length kc] 40))=w1 at *
   obtain⟨⟨n0,n1⟩,n2,n3⟩:=az HB1.out
   go_wp2_with fail
   go_ret
   exact⟨rfl,aj.out⟩
def Am (s:ByteArray):List Value:=[.string s]
def kW (ps:List Tree) (ns:List ByteArray):Option ByteArray:=ps.findSome? λp=>ns.find? λs=>ig s p
def lg (n:Int) (o:Option ByteArray):ByteArray × Int:=match o with|some s=>(s,n)|none=>(⟨#[]⟩,0)
def pR (w:World) (r:ByteArray × Int) (e:Ending) (w':World):Prop:=e = .returned (.tuple #[.string r.1,.int .i64 r.2])/\Grow w w'
theorem VG {ps:List Tree} {ns:List ByteArray} {i j:Nat} (hi:i<ps.length) (hj:j<ns.length) (h1:∀ a (ha:a<ps.length),a<i->∀ b (hb:b<ns.length),ig ns[b] ps[a]=false) (h2:∀ b (hb:b<ns.length),b<j->ig ns[b] ps[i]=false) (h:ig ns[j] ps[i]=true):kW ps ns=some ns[j]:=by
 have hf:ns.find? (λs=>ig s ps[i])=some ns[j]:=by
  rw[List.find?_eq_some_iff_getElem]
  exact⟨h,j,hj,rfl,λb hb=>by rw[h2 b (by omega) hb];rfl⟩
 rw[kW,List.findSome?_eq_some_iff]
 refine⟨ps.take i,ps[i],ps.drop (i+1),?_,hf,?_⟩
 · rw[List.getElem_cons_drop,List.take_append_drop]
 · intro x hx
   obtain⟨a,ha,rfl⟩:=List.mem_iff_getElem.1 hx
   rw[List.length_take]at ha
   rw[List.getElem_take,List.find?_eq_none]
   intro s hs
   obtain⟨b,hb,rfl⟩:=List.mem_iff_getElem.1 hs
   rw[h1 a (by omega) (by omega) b hb];simp
theorem UH {ps:List Tree} {ns:List ByteArray} (h1:∀ a (ha:a<ps.length),∀ b (hb:b<ns.length),ig ns[b] ps[a]=false):kW ps ns=none:=by
 rw[kW,List.findSome?_eq_none_iff]
 intro x hx
 obtain⟨a,ha,rfl⟩:=List.mem_iff_getElem.1 hx
 rw[List.find?_eq_none]
 intro s hs
 obtain⟨b,hb,rfl⟩:=List.mem_iff_getElem.1 hs
 rw[h1 a ha b hb];simp
set_option maxRecDepth 100000 in
set_option maxHeartbeats 12800000 in
theorem GJ (pv nv:Value) (l:List ae) (ns:List ByteArray) (w:World) (hp:ay 4 ae.cells w pv l) (hn:ay 1 Am w nv ns) (hx:∀ x∈l,bD w x/\bL x.t<=900000/\(x.t.kind=3->x.t.kids≠[])) :
 Calls Tryz.prog 106 #[pv,nv] w (pR w (lg 8 (kW (ae.ts l) ns))):=by
 obtain⟨pa,pc,rfl,-,hpl⟩:=hp.form
 obtain⟨na,nc,rfl,-,hnl⟩:=hn.form
 have HP:=Lib.hid hp
 have HN:=Lib.hid hn
 have HX:=Lib.hid hx
 have xK:=Lib.hid (λi j (hi:i<l.length) (hj:j<ns.length)=>VG (ps:=ae.ts l) (ns:=ns) (i:=i) (j:=j) (by rw[ae.bX];exact hi) hj)
 have Cu:=Lib.hid (UH (ps:=ae.ts l) (ns:=ns))
 obtain⟨R,hR⟩:∃ R,R=kW (ae.ts l) ns:=⟨_,rfl⟩
 rw[← hR]at xK Cu ⊢
 clear hR hp hn hx
 go_enter Tryz.func106,Tryz.ntmps106
 go_wp2_with fail
 go_loopw [12] (λt wr=>∃ i:Nat,t = .int .i64 i/\i<=l.length/\Grow w wr/\∀ a (ha:a<l.length),a<i->∀ b (hb:b<ns.length),ig ns[b] l[a].t=false) (λt _=>l.length - (intOf t).toNat)
 case atStart=>exact⟨0,rfl,Nat.zero_le _,Mv.refl _ _,λa _ h=>by omega⟩
 obtain⟨i,rfl,hi,hg,hno⟩:=hrel
 have HG:=Lib.hid hg
 have dC:=Lib.hid hno
 clear hg hno
 by_cases hlt:i<l.length
 · obtain⟨b,off,cap',e,_,hcc⟩:=(HP.out.later HG.out).at hlt
   simp only[Value.slice.injEq,true_and]at e
   obtain⟨rfl,rfl⟩:=e
   obtain⟨hxo,hxs,hxk⟩:=HX.out l[i] (List.getElem_mem hlt)
   have qh:=Lib.hid (λs z (hz:Grow w z)=>KM l[i] s z (hxo.later hz) hxs hxk)
   have HH:=Lib.hid (λj (hj:j<ns.length) (h2:∀ b (hb:b<ns.length),b<j->ig ns[b] l[i].t=false) (h:ig ns[j] l[i].t=true)=>xK.out i j hlt hj (λa ha hai b hb=>by rw[ae.jw _ _ (by rw[ae.bX]at ha;exact ha)];exact dC.out a (by rw[ae.bX]at ha;exact ha) hai b hb) (λb hb hbj=>by rw[ae.jw _ _ hlt];exact h2 b hb hbj) (by rw[ae.jw _ _ hlt];exact h))
   have gT:=Lib.hid (show(∀ b (hb:b<ns.length),ig ns[b] l[i].t=false)->∀ a (ha:a<l.length),a<i+1->∀ b (hb:b<ns.length),ig ns[b] l[a].t=false from λh a ha hai=>by
    rcases Nat.lt_or_ge a i with h1|h1
    · exact dC.out a ha h1
    · obtain rfl:a=i:=by omega
      exact h)
   generalize l[i]=x at qh HH gT hxo hcc
   obtain⟨xk,xn,xs,CJ,xl⟩:=x
   obtain⟨xa,gZ,rfl,-,-⟩:=hxo.form
   simp only[ae.val]at qh
   generalize ae.t (.mk xk xn xs (.slice xa xl.length gZ) xl)=T at *
   have c0:=hcc 0 _ rfl
   have c1:=hcc 1 _ rfl
   have c2:=hcc 2 _ rfl
   have c3:=hcc 3 _ rfl
   simp only[Nat.add_zero]at c0
   have hbl:b<wr.heap.size:=World.block_lt_of_cell? wr _ c0
   have bE:=Lib.hid (HG.out.alloc (.cells #[.int .u8 xk,.int .i64 xn,.string xs,.slice xa xl.length gZ] 40))
   have wC:=Lib.hid (heap_alloc_new wr (.cells #[.int .u8 xk,.int .i64 xn,.string xs,.slice xa xl.length gZ] 40))
   have HLA:=Lib.hid (show(wr.alloc (.cells #[.int .u8 xk,.int .i64 xn,.string xs,.slice xa xl.length gZ] 40)).heap.size=wr.heap.size+1 from by simp)
   clear hcc hxo hxs hxk xK dC
   go_wp2_with fail
   obtain⟨B,hB⟩:∃ B,B=wr.heap.size:=⟨_,rfl⟩
   rw[← hB]at wC HLA
   generalize (wr.alloc (.cells #[.int .u8 xk,.int .i64 xn,.string xs,.slice xa xl.length gZ] 40))=wo at *
   rw[← hB]
   clear c0 c1 c2 c3 hbl hB
   go_loopw [18] (λt wr2=>∃ j:Nat,t = .int .i64 j/\j<=ns.length/\Grow wo wr2/\∀ b (hb:b<ns.length),b<j->ig ns[b] T=false) (λt _=>ns.length - (intOf t).toNat)
   case atStart=>exact⟨0,rfl,Nat.zero_le _,Mv.refl _ _,λa _ h=>by omega⟩
   obtain⟨j,rfl,hj,hg2,xE⟩:=hrel
   have HG2:=Lib.hid (gtr bE.out hg2)
   have II:=Lib.hid xE
   have HB2:=Lib.hid (ah wC.out hg2)
   clear xE
   by_cases hlj:j<ns.length
   · obtain⟨b2,aco,cap2,e2,_,hc2⟩:=(HN.out.later HG2.out).at hlj
     simp only[Value.slice.injEq,true_and]at e2
     obtain⟨rfl,rfl⟩:=e2
     have d0:=hc2 0 _ rfl
     simp only[Nat.add_zero,Nat.mul_one]at d0
     have Aj:b2<wr.heap.size:=World.block_lt_of_cell? wr _ d0
     obtain⟨⟨n0,n1⟩,n2,n3⟩:=az HB2.out
     have hlB:=lt_of_block HB2.out
     have HC:=Lib.hid (qh.out ns[j] wr HG2.out)
     have Q6:=Lib.hid (HH.out j hlj II.out)
     have wD:=Lib.hid (show ig ns[j] T=false->∀ b (hb:b<ns.length),b<j+1->ig ns[b] T=false from λh b hb hbj=>by
      rcases Nat.lt_or_ge b j with h1|h1
      · exact II.out b hb h1
      · obtain rfl:b=j:=by omega
        exact h)
     have ZM:=hg2
     clear hc2 hg2
     generalize ns[j]=sj at HC Q6 wD d0
     generalize ig sj T=q at *
     go_wp2_with fail
     refine HC.out.mono ?_
     rintro e w5 ⟨rfl,hg5⟩
     have bG:=Lib.hid (gtr HG2.out hg5)
     have IJ:=Lib.hid (gtr ZM hg5)
     clear hg5 n0 n1 n2 n3 d0 hlB Aj
     cases q with
     |true =>
      have HRR:=Lib.hid (Q6.out rfl)
      go_wp2_with fail
      go_ret2
      rw[HRR.out]
      exact⟨rfl,bG.out⟩
     |false =>
      have ow:=Lib.hid (wD.out rfl)
      go_wp2_with fail
      go_roundw
      case rel=>exact⟨j+1,by go_num,by omega,IJ.out,ow.out⟩
      case measure=>simp[intOf];omega
   · obtain rfl:j=ns.length:=by omega
     have ow:=Lib.hid (gT.out (λb hb=>II.out b hb hb))
     clear hg2
     go_wp2_with fail
     go_roundw
     case rel=>exact⟨i+1,by go_num,by omega,HG2.out,ow.out⟩
     case measure=>simp[intOf];omega
 · obtain rfl:i=l.length:=by omega
   have HRR:=Lib.hid (Cu.out (λa ha b hb=>by rw[ae.bX]at ha;rw[ae.jw _ _ ha];exact dC.out a ha ha b hb))
   go_wp2_with fail
   go_ret2
   rw[HRR.out]
   exact⟨rfl,HG.out⟩
end Go.Proofs.YtbpodipdfohikaaGreat
