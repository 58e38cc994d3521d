import Derived.Test.YtbpodipdfohikaaGreatK03
set_option linter.unusedSimpArgs false
set_option linter.unusedVariables false
set_option maxRecDepth 100000
set_option maxHeartbeats 25600000
namespace Go.Proofs.YtbpodipdfohikaaGreat
open Go.RowKit Go.Instr
theorem KC {s:ByteArray} (h:s.size=0):s.toList.isEmpty=true:=by
 obtain rfl:=Kv (s:=s) (by omega)
 have h1:ByteArray.toList ⟨#[]⟩=[]:=by rw[ByteArray.toList_eq]
 rw[h1];rfl
theorem fV {w:World} {X:Nat} {c0 c1 c2 c3:Value} {t:TypeId} (h:w.heap[X]? = some (.cells #[c0,c1,c2,c3] t (0,0))):w.cell? ⟨X,0,none⟩=some c0/\w.cell? ⟨X,1,none⟩=some c1/\w.cell? ⟨X,2,none⟩=some c2/\w.cell? ⟨X,3,none⟩=some c3:=by
 simp[World.cell?,h]
theorem bD.form {w:World} {k n:Int} {s:ByteArray} {kv:Value} {l:List ae} (h:bD w (.mk k n s kv l)):∃ a cap,kv = .slice a l.length cap/\l.length<=cap/\l.length<=9223372036854775807:=h.row.2.2.2.1.form
theorem rX {k n:Int} {s:ByteArray} {kv:Value} {l:List ae} {x:ae} (h:x∈l):SizeOf.sizeOf x<SizeOf.sizeOf (ae.mk k n s kv l):=by
 have:=List.sizeOf_lt_of_mem h
 simp
 omega
theorem Lm:∀ (ps:List (Tree->Bool)) (l:List Tree),ps.length≠l.length->aY ps l=false
 | [],[],h=>absurd rfl h
 | [],_ :: _,_=>by simp[aY]
 |_ :: _,[],_=>by simp[aY]
 |p :: ps,t :: l,h=>by
  rw[aY,Lm ps l (by simpa using h),Bool.and_false]
theorem KU:∀ (ps:List (Tree->Bool)) (l:List Tree),ps.length=l.length->(∀ i (h1:i<ps.length) (h2:i<l.length),ps[i] l[i]=true)->aY ps l=true
 | [],[],_,_=>by simp[aY]
 | [],_ :: _,h,_=>by simp at h
 |_ :: _,[],h,_=>by simp at h
 |p :: ps,t :: l,h,hh=>by
  have h0:=hh 0 (by simp) (by simp)
  simp at h0
  rw[aY,h0,KU ps l (by simpa using h) (λi h1 h2=>hh (i+1) (Nat.succ_lt_succ h1) (Nat.succ_lt_succ h2))]
  rfl
theorem KF:∀ (ps:List (Tree->Bool)) (l:List Tree) (i:Nat) (h1:i<ps.length) (h2:i<l.length),ps[i] l[i]=false->aY ps l=false
 |p :: ps,t :: l,0,_,_,h=>by
  simp at h
  rw[aY,h,Bool.false_and]
 |p :: ps,t :: l,i+1,h1,h2,h=>by
  rw[aY,KF ps l i (Nat.lt_of_succ_lt_succ h1) (Nat.lt_of_succ_lt_succ h2) h,Bool.and_false]
set_option maxRecDepth 100000 in
theorem wO (k n:Int) (s:ByteArray) (a:Option Addr) (l:List ae) (cap:Nat) (w:World):Calls Tryz.prog 70 #[.agg #[.int .u8 k,.int .i64 n,.string s,.slice a l.length cap]] w (eP w (dO n s)):=by
 have HG:=Lib.hid (show Grow w (w.alloc (.cells #[.int .u8 k,.int .i64 n,.string s,.slice a l.length cap] 40))from(Mv.refl _ _).alloc _)
 by_cases hn:n=0
 · subst hn
   by_cases hs:s.size=0
   · have hemp:=KC hs
     have HR:=Lib.hid (show dO 0 s=true from by simp[dO,hs])
     clear hs
     go_enter Tryz.func70,Tryz.ntmps70
     go_wp2_with fail
     go_ret
     exact⟨aV HR.out.symm,HG.out⟩
   · have hne:=Bi (s:=s) (by omega)
     have HR:=Lib.hid (show dO 0 s=false from by simp[dO,hs])
     clear hs
     go_enter Tryz.func70,Tryz.ntmps70
     go_wp2_with fail
     go_ret
     exact⟨aV HR.out.symm,HG.out⟩
 · have hn2:(n == 0)=false:=by simpa using hn
   have HR:=Lib.hid (show dO n s=false from by simp[dO,hn])
   go_enter Tryz.func70,Tryz.ntmps70
   go_wp2_with fail
   go_ret
   exact⟨aV HR.out.symm,HG.out⟩
set_option maxRecDepth 100000 in
theorem wP (k n:Int) (s:ByteArray) (a:Option Addr) (l:List ae) (cap:Nat) (w:World) (hs:s.size<=9223372036854775807):Calls Tryz.prog 96 #[.agg #[.int .u8 k,.int .i64 n,.string s,.slice a l.length cap]] w (eP w (ed n s)):=by
 have HG:=Lib.hid (show Grow w (w.alloc (.cells #[.int .u8 k,.int .i64 n,.string s,.slice a l.length cap] 40))from(Mv.refl _ _).alloc _)
 by_cases hn:n=0
 · subst hn
   have HR:=Lib.hid (show ed 0 s=jV s from by simp[ed])
   have HN:=Lib.hid (GN s (w.alloc (.cells #[.int .u8 k,.int .i64 0,.string s,.slice a l.length cap] 40)) hs)
   go_enter Tryz.func96,Tryz.ntmps96
   go_wp2_with fail
   refine HN.out.mono ?_
   rintro e w1 ⟨rfl,hg1⟩
   have aj:=Lib.hid (Mv.trans HG.out hg1 (λ_ e=>e.elim))
   clear hg1
   go_wp2_with fail
   go_ret
   exact⟨aV HR.out.symm,aj.out⟩
 · have hn2:(n == 0)=false:=by simpa using hn
   have HR:=Lib.hid (show ed n s=false from by simp[ed,hn])
   go_enter Tryz.func96,Tryz.ntmps96
   go_wp2_with fail
   go_ret
   exact⟨aV HR.out.symm,HG.out⟩
def _x (f:Nat):List Value:=[.func (.func f) #[] #[]]
set_option maxRecDepth 100000 in
set_option maxHeartbeats 1600000 in
theorem qC (k n:Int) (s:ByteArray) (kv:Value) (l:List ae) (fs:List Nat) (ps:List (Tree->Bool)) (tv:Value) (w:World) (hx:bD w (.mk k n s kv l)) (ht:ay 1 _x w tv fs) (hl:ps.length=fs.length)
 (hf3:∀ f∈fs,f=95\/f=94\/f=49)
 (hc:∀ i (hi:i<fs.length) (hk:i<l.length) (hp:i<ps.length) (w':World),Grow w w'->Calls Tryz.prog fs[i] #[l[i].val] w' (eP w' (ps[i] l[i].t))) :
 Calls Tryz.prog 93 #[ae.val (.mk k n s kv l),tv] w (eP w (aY ps (ae.ts l))):=by
 obtain⟨a,cap,rfl,hcap,hlen⟩:=hx.form
 obtain⟨ta,abK,rfl,abD,abE⟩:=ht.form
 have HX:=Lib.hid hx
 have HT:=Lib.hid ht
 have HC:=Lib.hid hc
 have Aq:=Lib.hid hl
 have Ar:=Lib.hid hf3
 clear hx ht hc hl hf3
 have HG:=Lib.hid (show Grow w (w.alloc (.cells #[.int .u8 k,.int .i64 n,.string s,.slice a l.length cap] 40))from(Mv.refl _ _).alloc _)
 have HB:=Lib.hid (heap_alloc_new w (.cells #[.int .u8 k,.int .i64 n,.string s,.slice a l.length cap] 40))
 simp only[ae.val]
 by_cases hle:l.length=fs.length
 case neg =>
  have h1:(l.length == fs.length)=false:=by simpa using hle
  have HR:=Lib.hid (show aY ps (ae.ts l)=false from Lm _ _ (by rw[ae.bX,Aq.out];omega))
  go_enter Tryz.func93,Tryz.ntmps93
  go_wp2_with fail
  go_ret
  exact⟨aV HR.out.symm,HG.out⟩
 have xP:=Lib.hid hle
 rw[hle]at HB HG hcap
 rw[hle]
 clear hle
 go_enter Tryz.func93,Tryz.ntmps93
 go_wp2_with fail
 generalize w.alloc (.cells #[.int .u8 k,.int .i64 n,.string s,.slice a fs.length cap] 40)=w1 at *
 go_loopw [15] (λt wr=>∃ j:Nat,t = .int .i64 j/\j<=fs.length/\(∀ i (h1:i<ps.length) (h2:i<l.length),i<j->ps[i] l[i].t=true)/\Grow w1 wr) (λt _=>fs.length - (intOf t).toNat)
 case atStart=>exact⟨0,rfl,Nat.zero_le _,λi _ _ h=>by omega,Mv.refl _ _⟩
 obtain⟨j,rfl,hj,hall,hgr⟩:=hrel
 have tF:=Lib.hid hall
 have bQ:=Lib.hid hgr
 have gu:=Lib.hid (Mv.trans HG.out hgr (λ_ e=>e.elim))
 have hb:=ah HB.out hgr
 obtain⟨m0,m1,m2,m3⟩:=fV hb
 have hlb:=lt_of_block hb
 clear hall hgr hb
 by_cases hlt:j<fs.length
 · have hjl:j<l.length:=by rw[xP.out];exact hlt
   have hjp:j<ps.length:=by rw[Aq.out];exact hlt
   obtain⟨tb,abL,abF,e,_,htc⟩:=(HT.out.later gu.out).at hlt
   simp only[Value.slice.injEq,true_and]at e
   obtain⟨rfl,rfl⟩:=e
   have f0:=htc 0 _ rfl
   simp only[Nat.add_zero,Nat.mul_one]at f0
   have abM:tb<wr.heap.size:=World.block_lt_of_cell? wr _ f0
   obtain⟨b,off,cap',e,_,hcc⟩:=(HX.out.row.2.2.2.1.later gu.out).at hjl
   rw[xP.out]at e
   simp only[Value.slice.injEq,true_and]at e
   obtain⟨rfl,rfl⟩:=e
   have xQ:=Lib.hid (HC.out j hlt hjl hjp wr gu.out)
   have hxo:=HX.out.row.2.2.2.2 l[j] (List.getElem_mem hjl)
   have HST:=Lib.hid (show(ps[j] l[j].t=true->∀ i (h1:i<ps.length) (h2:i<l.length),i<j+1->ps[i] l[i].t=true)from λh i h1 h2 hi=>by
    rcases Nat.lt_or_ge i j with h3|h3
    · exact tF.out i h1 h2 h3
    · obtain rfl:i=j:=by omega
      exact h)
   have xR:=Lib.hid (show(ps[j] l[j].t=false->aY ps (ae.ts l)=false)from λh=>KF ps (ae.ts l) j hjp (by rw[ae.bX];exact hjl) (by rw[ae.jw l j hjl];exact h))
   generalize hbv:ps[j] l[j].t=bv at *
   generalize l[j]=x at xQ hxo hcc
   have hfj:=Ar.out fs[j] (List.getElem_mem hlt)
   generalize fs[j]=fj at *
   obtain⟨xk,xn,xs,CJ,xl⟩:=x
   obtain⟨xa,gZ,rfl,-,-⟩:=hxo.form
   simp only[ae.val]at xQ
   have c0:=hcc 0 _ rfl
   have c1:=hcc 1 _ rfl
   have c2:=hcc 2 _ rfl
   have c3:=hcc 3 _ rfl
   simp only[Nat.add_zero]at c0
   have hbl:b<wr.heap.size:=World.block_lt_of_cell? wr _ c0
   clear htc hcc hxo hbv
   rcases hfj with rfl|rfl|rfl
   all_goals
    go_wp2_with fail
    refine xQ.out.mono ?_
    rintro e w2 ⟨rfl,hg2⟩
    have HG2:=Lib.hid (Mv.trans bQ.out hg2 (λ_ e=>e.elim))
    have fD:=Lib.hid (Mv.trans gu.out hg2 (λ_ e=>e.elim))
    clear hg2
    cases bv with
    |true =>
     have kH:=Lib.hid (HST.out rfl)
     go_wp2_with fail
     go_roundw
     case rel=>exact⟨j+1,by go_num,by omega,kH.out,HG2.out⟩
     case measure=>simp[intOf];omega
    |false =>
     have HR:=Lib.hid (xR.out rfl)
     go_wp2_with fail
     go_ret
     exact⟨aV HR.out.symm,fD.out⟩
 obtain rfl:j=fs.length:=by omega
 have HR:=Lib.hid (show aY ps (ae.ts l)=true from KU _ _ (by rw[ae.bX,Aq.out,xP.out]) (λi h1 h2=>by
  rw[ae.jw l i (by rw[ae.bX]at h2;exact h2)]
  exact tF.out i h1 (by rw[ae.bX]at h2;exact h2) (by rw[← Aq.out];exact h1)))
 go_wp2_with fail
 go_ret
 exact⟨aV HR.out.symm,gu.out⟩
set_option maxRecDepth 100000 in
set_option maxHeartbeats 1600000 in
theorem Gy (kv:Value) (l:List ae) (f:Nat) (p:Tree->Bool) (w:World) (hrow:ay 4 ae.cells w kv l) (hx:∀ x∈l,bD w x) (hf2:f=72\/f=97)
 (hc:∀ x∈l,∀ (w':World),Grow w w'->Calls Tryz.prog f #[x.val] w' (eP w' (p x.t))) :
 Calls Tryz.prog 71 #[kv,.func (.func f) #[] #[]] w (eP w ((ae.ts l).all p)):=by
 obtain⟨a,cap,rfl,hcap,hlen⟩:=hrow.form
 have iy:=Lib.hid hrow
 have HX:=Lib.hid hx
 have HC:=Lib.hid hc
 clear hrow hx hc
 rcases hf2 with rfl|rfl
 all_goals
  go_enter Tryz.func71,Tryz.ntmps71
  go_wp2_with fail
  go_loopw [9] (λt wr=>∃ j:Nat,t = .int .i64 j/\j<=l.length/\(∀ i (h2:i<l.length),i<j->p l[i].t=true)/\Grow w wr) (λt _=>l.length - (intOf t).toNat)
  case atStart=>exact⟨0,rfl,Nat.zero_le _,λi _ h=>by omega,Mv.refl _ _⟩
  obtain⟨j,rfl,hj,hall,hgr⟩:=hrel
  have tF:=Lib.hid hall
  have bQ:=Lib.hid hgr
  clear hall hgr
  by_cases hlt:j<l.length
  · obtain⟨b,off,cap',e,_,hcc⟩:=(iy.out.later bQ.out).at hlt
    simp only[Value.slice.injEq,true_and]at e
    obtain⟨rfl,rfl⟩:=e
    have hxo:=HX.out l[j] (List.getElem_mem hlt)
    have xQ:=Lib.hid (λw' (h:Grow wr w')=>HC.out l[j] (List.getElem_mem hlt) w' (Mv.trans bQ.out h (λ_ e=>e.elim)))
    have HST:=Lib.hid (show(p l[j].t=true->∀ i (h2:i<l.length),i<j+1->p l[i].t=true)from λh i h2 hi=>by
     rcases Nat.lt_or_ge i j with h3|h3
     · exact tF.out i h2 h3
     · obtain rfl:i=j:=by omega
       exact h)
    have xR:=Lib.hid (show(p l[j].t=false->(ae.ts l).all p=false)from λh=>List.all_eq_false.2 ⟨l[j].t,by rw[ae.jv];exact List.mem_map.2 ⟨l[j],List.getElem_mem hlt,rfl⟩,by rw[h];simp⟩)
    generalize hbv:p l[j].t=bv at *
    generalize l[j]=x at xQ hxo hcc
    obtain⟨xk,xn,xs,CJ,xl⟩:=x
    obtain⟨xa,gZ,rfl,-,-⟩:=hxo.form
    simp only[ae.val]at xQ
    have c0:=hcc 0 _ rfl
    have c1:=hcc 1 _ rfl
    have c2:=hcc 2 _ rfl
    have c3:=hcc 3 _ rfl
    simp only[Nat.add_zero]at c0
    have hbl:b<wr.heap.size:=World.block_lt_of_cell? wr _ c0
    have jf:=Lib.hid (xQ.out (wr.alloc (.cells #[.int .u8 xk,.int .i64 xn,.string xs,.slice xa xl.length gZ] 40)) ((Mv.refl _ _).alloc _))
    have bE:=Lib.hid (bQ.out.alloc (.cells #[.int .u8 xk,.int .i64 xn,.string xs,.slice xa xl.length gZ] 40))
    clear hcc hxo hbv
    go_wp2_with fail
    refine jf.out.mono ?_
    rintro e w2 ⟨rfl,hg2⟩
    have HG2:=Lib.hid (Mv.trans bE.out hg2 (λ_ e=>e.elim))
    clear hg2
    cases bv with
    |true =>
     have kH:=Lib.hid (HST.out rfl)
     go_wp2_with fail
     go_roundw
     case rel=>exact⟨j+1,by go_num,by omega,kH.out,HG2.out⟩
     case measure=>simp[intOf];omega
    |false =>
     have HR:=Lib.hid (xR.out rfl)
     go_wp2_with fail
     go_ret
     exact⟨aV HR.out.symm,HG2.out⟩
  obtain rfl:j=l.length:=by omega
  have HR:=Lib.hid (show(ae.ts l).all p=true from List.all_eq_true.2 λt ht=>by
   rw[ae.jv]at ht
   obtain⟨x,hx,rfl⟩:=List.mem_map.1 ht
   obtain⟨i,hi,rfl⟩:=List.mem_iff_getElem.1 hx
   exact tF.out i hi hi)
  go_wp2_with fail
  go_ret
  exact⟨aV HR.out.symm,bQ.out⟩
end Go.Proofs.YtbpodipdfohikaaGreat
