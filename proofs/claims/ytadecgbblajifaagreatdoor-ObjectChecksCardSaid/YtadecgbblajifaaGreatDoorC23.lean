import Derived.Test.YtadecgbblajifaaGreatDoorC22
set_option linter.unusedSimpArgs false
set_option linter.unusedVariables false
set_option maxRecDepth 100000
set_option maxHeartbeats 25600000
namespace Go.Proofs.YtadecgbblajifaaGreatDoor
section
open Go.RowKit Go.Instr
inductive Tree where
 |mk (kind num:Int) (name:ByteArray) (kids:List Tree)
namespace Tree
def kind:Tree->Int | .mk k _ _ _=>k
def num:Tree->Int | .mk _ n _ _=>n
def name:Tree->ByteArray | .mk _ _ s _=>s
def kids:Tree->List Tree | .mk _ _ _ l=>l
end Tree
def aY (n:Int) (s:ByteArray):Bool:=n == 0 && s.size == 0
def bu (n:Int) (s:ByteArray):Bool:=n == 0 && aS s
mutual
def ax:Tree->Bool
 |.mk k n s l =>
  if k=1 then decide (0<=n) && (s.size == 0 && l.isEmpty)
  else if k=2\/k=4\/k=5 then bu n s && l.isEmpty
  else if k=3 then bu n s && (l.length == 1 && lD l)
  else if k=6\/k=7 then aY n s && (l.length == 1 && lD l)
  else if 8<=k/\k<=23 then aY n s && (l.length == 2 && lD l)
  else false
def lD:List Tree->Bool
 | []=>true
 |t :: l=>ax t && lD l
end
def dV (t:Tree):Bool:=(t.kind == 2 || t.kind == 3) && ax t
def iM (t:Tree):Bool:=t.kind == 2 && ax t
def aC (ps:List (Tree->Bool)) (l:List Tree):Bool:=match ps,l with
 | [],[]=>true
 |p :: ps,t :: l=>p t && aC ps l
 |_,_=>false
mutual
def aK:Tree->Bool
 |.mk k n s l =>
  if k=40\/k=41\/k=42\/k=56 then aY n s && aC [dV,ax] l
  else if k=43 then aY n s && aC [dV,dV] l
  else if k=44\/k=45 then bu n s && aC [dV] l
  else if k=46\/k=47\/k=48\/k=49 then aY n s && aC [dV] l
  else if k=50\/k=51 then bu n s && (decide (l.length<=8) && l.all iM)
  else if k=52\/k=53 then aY n s && (aC [ax,λ_=>true,λ_=>true,ax] l && ((iZ l).getD 1 false && (iZ l).getD 2 false))
  else if k=54 then bu n s && (aC [ax,λ_=>true,ax] l && (iZ l).getD 1 false)
  else if k=55 then bu n s && (l.length == 1 && (iZ l).getD 0 false)
  else false
def dh:Tree->Bool
 |.mk k n s l=>k == 57 && (aY n s && qU l)
def iZ:List Tree->List Bool
 | []=>[]
 |t :: l=>dh t :: iZ l
def qU:List Tree->Bool
 | []=>true
 |t :: l=>aK t && qU l
end
theorem yg (l:List Tree):iZ l=l.map dh:=by
 induction l with
 |nil=>rw[iZ];rfl
 |cons t l ih=>rw[iZ,ih];rfl
theorem Jq (l:List Tree):qU l=l.all aK:=by
 induction l with
 |nil=>rw[qU];rfl
 |cons t l ih=>rw[qU,ih];rfl
inductive ae where
 |mk (kind num:Int) (name:ByteArray) (kv:Value) (kids:List ae)
def ae.cells:ae->List Value
 |.mk k n s kv _=>[.int .u8 k,.int .i64 n,.string s,kv]
def ae.kids:ae->List ae
 |.mk _ _ _ _ l=>l
def ae.val:ae->Value
 |.mk k n s kv _ => .agg #[.int .u8 k,.int .i64 n,.string s,kv]
mutual
def ae.t:ae->Tree
 |.mk k n s _ l => .mk k n s (ae.ts l)
def ae.ts:List ae->List Tree
 | []=>[]
 |x :: l=>x.t :: ae.ts l
end
theorem ae.rH (l:List ae):ae.ts l=l.map ae.t:=by
 induction l with
 |nil=>rw[ae.ts];rfl
 |cons t l ih=>rw[ae.ts,ih];rfl
theorem ae.lK (l:List ae):(ae.ts l).length=l.length:=by rw[ae.rH,List.length_map]
theorem ae.EG (l:List ae) (i:Nat) (h:i<l.length):(ae.ts l)[i]'(by rw[ae.lK];exact h)=l[i].t:=by simp[ae.rH]
inductive dS (w:World):ae->Prop
 |mk {k n:Int} {s:ByteArray} {kv:Value} {kids:List ae} (hk:0<=k/\k<=255) (hn:In64 n) (hs:s.size<=9223372036854775807) (row:aA 4 ae.cells w kv kids) (each:∀ x∈kids,dS w x):dS w (.mk k n s kv kids)
theorem dS.later {w w':World} {x:ae} (h:dS w x) (hm:Grow w w'):dS w' x:=by
 induction h with
 |mk hk hn hs row _ ih=>exact .mk hk hn hs (row.later hm) ih
theorem dS.row {w:World} {k n:Int} {s:ByteArray} {kv:Value} {kids:List ae} (h:dS w (.mk k n s kv kids)):(0<=k/\k<=255)/\In64 n/\s.size<=9223372036854775807/\aA 4 ae.cells w kv kids/\∀ x∈kids,dS w x:=by
 cases h with
 |mk hk hn hs row each=>exact⟨hk,hn,hs,row,each⟩
def gQ (w:World) (b:Bool) (e:Ending) (w':World):Prop:=e = .returned (.bool b)/\Grow w w'
end
section
theorem Fp {α β:Type} (f:α->β) (l:List α) (d:α) (k:Nat) (v:β) (h:(l.map f)[k]? = some v):k<l.length/\v=f (l.getD k d):=by
 rw[List.getElem?_map]at h
 rcases Nat.lt_or_ge k l.length with h1|h1
 · rw[List.getElem?_eq_getElem h1]at h
   refine⟨h1,?_⟩
   rw[List.getD_eq_getElem?_getD,List.getElem?_eq_getElem h1]
   simpa using h.symm
 · rw[List.getElem?_eq_none h1]at h;simp at h
theorem KW {W:World} (h:laidMetH Tryz.prog kI W):DV.Cells W 1 DV.wu:=DV.Cr (λk v hv=>by
 obtain⟨h1,rfl⟩:=Fp _ DV.Ag ⟨#[]⟩ k v hv
 exact I4 h k h1) (by simp[DV.wu,DV.Ag])
theorem Ef:DV.qo=(List.range 70).map λk=>if k % 2=0 then .string (mH.getD (k / 2) ⟨#[]⟩)else .int .i64 (iq.getD (k / 2) 0):=by kernel_rfl
theorem KX {W:World} (h:laidMetH Tryz.prog kI W):DV.Cells W 0 DV.qo:=DV.Cr (λk v hv=>by
 rw[Ef]at hv
 obtain⟨h1,rfl⟩:=Fp _ (List.range 70) 0 k v hv
 have h1:k<70:=h1
 have h2:(List.range 70).getD k 0=k:=by
  rw[List.getD_eq_getElem?_getD,List.getElem?_range h1];rfl
 rw[h2]
 have h3:=II h (k / 2) (by omega)
 split
 · rw[← h3.1];congr 2;omega
 · rw[← h3.2];congr 2;omega) (by rw[Ef];simp)
end
section
open Go.RowKit Go.Instr
theorem Be {s:ByteArray} (h:s.size=0):s.toList.isEmpty=true:=by
 obtain rfl:=tJ (s:=s) (by omega)
 have h1:ByteArray.toList ⟨#[]⟩=[]:=by rw[ByteArray.toList_eq]
 rw[h1];rfl
theorem eY {w:World} {X:Nat} {c0 c1 c2 c3:Value} {t:TypeId} (h:w.heap[X]? = some (.cells #[c0,c1,c2,c3] t (0,0))):w.cell? ⟨X,0,none⟩=some c0/\w.cell? ⟨X,1,none⟩=some c1/\w.cell? ⟨X,2,none⟩=some c2/\w.cell? ⟨X,3,none⟩=some c3:=by
 simp[World.cell?,h]
theorem dS.form {w:World} {k n:Int} {s:ByteArray} {kv:Value} {l:List ae} (h:dS w (.mk k n s kv l)):∃ a cap,kv = .slice a l.length cap/\l.length<=cap/\l.length<=9223372036854775807:=h.row.2.2.2.1.form
theorem wT {k n:Int} {s:ByteArray} {kv:Value} {l:List ae} {x:ae} (h:x∈l):SizeOf.sizeOf x<SizeOf.sizeOf (ae.mk k n s kv l):=by
 have:=List.sizeOf_lt_of_mem h
 simp
 omega
theorem BN:∀ (ps:List (Tree->Bool)) (l:List Tree),ps.length≠l.length->aC ps l=false
 | [],[],h=>absurd rfl h
 | [],_ :: _,_=>by simp[aC]
 |_ :: _,[],_=>by simp[aC]
 |p :: ps,t :: l,h=>by
  rw[aC,BN ps l (by simpa using h),Bool.and_false]
theorem Bt:∀ (ps:List (Tree->Bool)) (l:List Tree),ps.length=l.length->(∀ i (h1:i<ps.length) (h2:i<l.length),ps[i] l[i]=true)->aC ps l=true
 | [],[],_,_=>by simp[aC]
 | [],_ :: _,h,_=>by simp at h
 |_ :: _,[],h,_=>by simp at h
 |p :: ps,t :: l,h,hh=>by
  have h0:=hh 0 (by simp) (by simp)
  simp at h0
  rw[aC,h0,Bt ps l (by simpa using h) (λi h1 h2=>hh (i+1) (Nat.succ_lt_succ h1) (Nat.succ_lt_succ h2))]
  rfl
theorem Bg:∀ (ps:List (Tree->Bool)) (l:List Tree) (i:Nat) (h1:i<ps.length) (h2:i<l.length),ps[i] l[i]=false->aC ps l=false
 |p :: ps,t :: l,0,_,_,h=>by
  simp at h
  rw[aC,h,Bool.false_and]
 |p :: ps,t :: l,i+1,h1,h2,h=>by
  rw[aC,Bg ps l i (Nat.lt_of_succ_lt_succ h1) (Nat.lt_of_succ_lt_succ h2) h,Bool.and_false]
set_option maxRecDepth 100000 in
theorem mI (k n:Int) (s:ByteArray) (a:Option Addr) (l:List ae) (cap:Nat) (w:World):Calls Tryz.prog 114 #[.agg #[.int .u8 k,.int .i64 n,.string s,.slice a l.length cap]] w (gQ w (aY n s)):=by
 have HG:=Lib.hid (show Grow w (w.alloc (.cells #[.int .u8 k,.int .i64 n,.string s,.slice a l.length cap] 26))from(Mv.refl _ _).alloc _)
 by_cases hn:n=0
 · subst hn
   by_cases hs:s.size=0
   · have hemp:=Be hs
     have HR:=Lib.hid (show aY 0 s=true from by simp[aY,hs])
     clear hs
     go_enter Tryz.func114,Tryz.ntmps114
     go_wp2_with fail
     go_ret
     exact⟨aj HR.out.symm,HG.out⟩
   · have hne:=oF (s:=s) (by omega)
     have HR:=Lib.hid (show aY 0 s=false from by simp[aY,hs])
     clear hs
     go_enter Tryz.func114,Tryz.ntmps114
     go_wp2_with fail
     go_ret
     exact⟨aj HR.out.symm,HG.out⟩
 · have hn2:(n == 0)=false:=by simpa using hn
   have HR:=Lib.hid (show aY n s=false from by simp[aY,hn])
   go_enter Tryz.func114,Tryz.ntmps114
   go_wp2_with fail
   go_ret
   exact⟨aj HR.out.symm,HG.out⟩
set_option maxRecDepth 100000 in
theorem mJ (k n:Int) (s:ByteArray) (a:Option Addr) (l:List ae) (cap:Nat) (w:World) (hs:s.size<=9223372036854775807):Calls Tryz.prog 157 #[.agg #[.int .u8 k,.int .i64 n,.string s,.slice a l.length cap]] w (gQ w (bu n s)):=by
 have HG:=Lib.hid (show Grow w (w.alloc (.cells #[.int .u8 k,.int .i64 n,.string s,.slice a l.length cap] 26))from(Mv.refl _ _).alloc _)
 by_cases hn:n=0
 · subst hn
   have HR:=Lib.hid (show bu 0 s=aS s from by simp[bu])
   have HN:=Lib.hid (ui s (w.alloc (.cells #[.int .u8 k,.int .i64 0,.string s,.slice a l.length cap] 26)) hs)
   go_enter Tryz.func157,Tryz.ntmps157
   go_wp2_with fail
   refine HN.out.mono ?_
   rintro e w1 ⟨rfl,hg1⟩
   have tC:=Lib.hid (Mv.trans HG.out hg1 (λ_ e=>e.elim))
   clear hg1
   go_wp2_with fail
   go_ret
   exact⟨aj HR.out.symm,tC.out⟩
 · have hn2:(n == 0)=false:=by simpa using hn
   have HR:=Lib.hid (show bu n s=false from by simp[bu,hn])
   go_enter Tryz.func157,Tryz.ntmps157
   go_wp2_with fail
   go_ret
   exact⟨aj HR.out.symm,HG.out⟩
def PH (f:Nat):List Value:=[.func (.func f) #[] #[]]
set_option maxRecDepth 100000 in
set_option maxHeartbeats 1600000 in
theorem jL (k n:Int) (s:ByteArray) (kv:Value) (l:List ae) (fs:List Nat) (ps:List (Tree->Bool)) (tv:Value) (w:World) (hx:dS w (.mk k n s kv l)) (ht:aA 1 PH w tv fs) (hl:ps.length=fs.length)
 (hf3:∀ f∈fs,f=156\/f=155\/f=77)
 (hc:∀ i (hi:i<fs.length) (hk:i<l.length) (hp:i<ps.length) (w':World),Grow w w'->Calls Tryz.prog fs[i] #[l[i].val] w' (gQ w' (ps[i] l[i].t))) :
 Calls Tryz.prog 154 #[ae.val (.mk k n s kv l),tv] w (gQ w (aC ps (ae.ts l))):=by
 obtain⟨a,cap,rfl,hcap,hlen⟩:=hx.form
 obtain⟨ta,Qo,rfl,Qd,Qe⟩:=ht.form
 have HX:=Lib.hid hx
 have HT:=Lib.hid ht
 have HC:=Lib.hid hc
 have wK:=Lib.hid hl
 have PI:=Lib.hid hf3
 clear hx ht hc hl hf3
 have HG:=Lib.hid (show Grow w (w.alloc (.cells #[.int .u8 k,.int .i64 n,.string s,.slice a l.length cap] 26))from(Mv.refl _ _).alloc _)
 have HB:=Lib.hid (heap_alloc_new w (.cells #[.int .u8 k,.int .i64 n,.string s,.slice a l.length cap] 26))
 simp only[ae.val]
 by_cases hle:l.length=fs.length
 case neg =>
  have h1:(l.length == fs.length)=false:=by simpa using hle
  have HR:=Lib.hid (show aC ps (ae.ts l)=false from BN _ _ (by rw[ae.lK,wK.out];omega))
  go_enter Tryz.func154,Tryz.ntmps154
  go_wp2_with fail
  go_ret
  exact⟨aj HR.out.symm,HG.out⟩
 have AO:=Lib.hid hle
 rw[hle]at HB HG hcap
 rw[hle]
 clear hle
 go_enter Tryz.func154,Tryz.ntmps154
 go_wp2_with fail
 generalize w.alloc (.cells #[.int .u8 k,.int .i64 n,.string s,.slice a fs.length cap] 26)=w1 at *
 go_loopw [15] (λt wr=>∃ j:Nat,t = .int .i64 j/\j<=fs.length/\(∀ i (h1:i<ps.length) (h2:i<l.length),i<j->ps[i] l[i].t=true)/\Grow w1 wr) (λt _=>fs.length - (intOf t).toNat)
 case atStart=>exact⟨0,rfl,Nat.zero_le _,λi _ _ h=>by omega,Mv.refl _ _⟩
 obtain⟨j,rfl,hj,hall,hgr⟩:=hrel
 have mf:=Lib.hid hall
 have bq:=Lib.hid hgr
 have je:=Lib.hid (Mv.trans HG.out hgr (λ_ e=>e.elim))
 have hb:=dU HB.out hgr
 obtain⟨m0,m1,m2,m3⟩:=eY hb
 have hlb:=lt_of_block hb
 clear hall hgr hb
 by_cases hlt:j<fs.length
 · have hjl:j<l.length:=by rw[AO.out];exact hlt
   have hjp:j<ps.length:=by rw[wK.out];exact hlt
   obtain⟨tb,Qp,Qf,e,_,htc⟩:=(HT.out.later je.out).at hlt
   simp only[Value.slice.injEq,true_and]at e
   obtain⟨rfl,rfl⟩:=e
   have f0:=htc 0 _ rfl
   simp only[Nat.add_zero,Nat.mul_one]at f0
   have Qq:tb<wr.heap.size:=World.block_lt_of_cell? wr _ f0
   obtain⟨b,off,cap',e,_,hcc⟩:=(HX.out.row.2.2.2.1.later je.out).at hjl
   rw[AO.out]at e
   simp only[Value.slice.injEq,true_and]at e
   obtain⟨rfl,rfl⟩:=e
   have oz:=Lib.hid (HC.out j hlt hjl hjp wr je.out)
   have hxo:=HX.out.row.2.2.2.2 l[j] (List.getElem_mem hjl)
   have HST:=Lib.hid (show(ps[j] l[j].t=true->∀ i (h1:i<ps.length) (h2:i<l.length),i<j+1->ps[i] l[i].t=true)from λh i h1 h2 hi=>by
    rcases Nat.lt_or_ge i j with h3|h3
    · exact mf.out i h1 h2 h3
    · obtain rfl:i=j:=by omega
      exact h)
   have AP:=Lib.hid (show(ps[j] l[j].t=false->aC ps (ae.ts l)=false)from λh=>Bg ps (ae.ts l) j hjp (by rw[ae.lK];exact hjl) (by rw[ae.EG l j hjl];exact h))
   generalize hbv:ps[j] l[j].t=bv at *
   generalize l[j]=x at oz hxo hcc
   have hfj:=PI.out fs[j] (List.getElem_mem hlt)
   generalize fs[j]=fj at *
   obtain⟨xk,xn,xs,PK,xl⟩:=x
   obtain⟨xa,zS,rfl,-,-⟩:=hxo.form
   simp only[ae.val]at oz
   have c0:=hcc 0 _ rfl
   have c1:=hcc 1 _ rfl
   have c2:=hcc 2 _ rfl
   have c3:=hcc 3 _ rfl
   simp only[Nat.add_zero]at c0
   have hbl:b<wr.heap.size:=World.block_lt_of_cell? wr _ c0
   clear htc hcc hxo hbv
   rcases hfj with rfl|rfl|rfl
   all_goals
    go_wp2_with fail
    refine oz.out.mono ?_
    rintro e w2 ⟨rfl,hg2⟩
    have HG2:=Lib.hid (Mv.trans bq.out hg2 (λ_ e=>e.elim))
    have PL:=Lib.hid (Mv.trans je.out hg2 (λ_ e=>e.elim))
    clear hg2
    cases bv with
    |true =>
     have nY:=Lib.hid (HST.out rfl)
     go_wp2_with fail
     go_roundw
     case rel=>exact⟨j+1,by go_num,by omega,nY.out,HG2.out⟩
     case measure=>simp[intOf];omega
    |false =>
     have HR:=Lib.hid (AP.out rfl)
     go_wp2_with fail
     go_ret
     exact⟨aj HR.out.symm,PL.out⟩
 obtain rfl:j=fs.length:=by omega
 have HR:=Lib.hid (show aC ps (ae.ts l)=true from Bt _ _ (by rw[ae.lK,wK.out,AO.out]) (λi h1 h2=>by
  rw[ae.EG l i (by rw[ae.lK]at h2;exact h2)]
  exact mf.out i h1 (by rw[ae.lK]at h2;exact h2) (by rw[← wK.out];exact h1)))
 go_wp2_with fail
 go_ret
 exact⟨aj HR.out.symm,je.out⟩
set_option maxRecDepth 100000 in
set_option maxHeartbeats 1600000 in
theorem xm (kv:Value) (l:List ae) (f:Nat) (p:Tree->Bool) (w:World) (hrow:aA 4 ae.cells w kv l) (hx:∀ x∈l,dS w x) (hf2:f=116\/f=158)
 (hc:∀ x∈l,∀ (w':World),Grow w w'->Calls Tryz.prog f #[x.val] w' (gQ w' (p x.t))) :
 Calls Tryz.prog 115 #[kv,.func (.func f) #[] #[]] w (gQ w ((ae.ts l).all p)):=by
 obtain⟨a,cap,rfl,hcap,hlen⟩:=hrow.form
 have OC:=Lib.hid hrow
 have HX:=Lib.hid hx
 have HC:=Lib.hid hc
 clear hrow hx hc
 rcases hf2 with rfl|rfl
 all_goals
  go_enter Tryz.func115,Tryz.ntmps115
  go_wp2_with fail
  go_loopw [9] (λt wr=>∃ j:Nat,t = .int .i64 j/\j<=l.length/\(∀ i (h2:i<l.length),i<j->p l[i].t=true)/\Grow w wr) (λt _=>l.length - (intOf t).toNat)
  case atStart=>exact⟨0,rfl,Nat.zero_le _,λi _ h=>by omega,Mv.refl _ _⟩
  obtain⟨j,rfl,hj,hall,hgr⟩:=hrel
  have mf:=Lib.hid hall
  have bq:=Lib.hid hgr
  clear hall hgr
  by_cases hlt:j<l.length
  · obtain⟨b,off,cap',e,_,hcc⟩:=(OC.out.later bq.out).at hlt
    simp only[Value.slice.injEq,true_and]at e
    obtain⟨rfl,rfl⟩:=e
    have hxo:=HX.out l[j] (List.getElem_mem hlt)
    have oz:=Lib.hid (λw' (h:Grow wr w')=>HC.out l[j] (List.getElem_mem hlt) w' (Mv.trans bq.out h (λ_ e=>e.elim)))
    have HST:=Lib.hid (show(p l[j].t=true->∀ i (h2:i<l.length),i<j+1->p l[i].t=true)from λh i h2 hi=>by
     rcases Nat.lt_or_ge i j with h3|h3
     · exact mf.out i h2 h3
     · obtain rfl:i=j:=by omega
       exact h)
    have AP:=Lib.hid (show(p l[j].t=false->(ae.ts l).all p=false)from λh=>List.all_eq_false.2 ⟨l[j].t,by rw[ae.rH];exact List.mem_map.2 ⟨l[j],List.getElem_mem hlt,rfl⟩,by rw[h];simp⟩)
    generalize hbv:p l[j].t=bv at *
    generalize l[j]=x at oz hxo hcc
    obtain⟨xk,xn,xs,PK,xl⟩:=x
    obtain⟨xa,zS,rfl,-,-⟩:=hxo.form
    simp only[ae.val]at oz
    have c0:=hcc 0 _ rfl
    have c1:=hcc 1 _ rfl
    have c2:=hcc 2 _ rfl
    have c3:=hcc 3 _ rfl
    simp only[Nat.add_zero]at c0
    have hbl:b<wr.heap.size:=World.block_lt_of_cell? wr _ c0
    have PM:=Lib.hid (oz.out (wr.alloc (.cells #[.int .u8 xk,.int .i64 xn,.string xs,.slice xa xl.length zS] 26)) ((Mv.refl _ _).alloc _))
    have aN:=Lib.hid (bq.out.alloc (.cells #[.int .u8 xk,.int .i64 xn,.string xs,.slice xa xl.length zS] 26))
    clear hcc hxo hbv
    go_wp2_with fail
    refine PM.out.mono ?_
    rintro e w2 ⟨rfl,hg2⟩
    have HG2:=Lib.hid (Mv.trans aN.out hg2 (λ_ e=>e.elim))
    clear hg2
    cases bv with
    |true =>
     have nY:=Lib.hid (HST.out rfl)
     go_wp2_with fail
     go_roundw
     case rel=>exact⟨j+1,by go_num,by omega,nY.out,HG2.out⟩
     case measure=>simp[intOf];omega
    |false =>
     have HR:=Lib.hid (AP.out rfl)
     go_wp2_with fail
     go_ret
     exact⟨aj HR.out.symm,HG2.out⟩
  obtain rfl:j=l.length:=by omega
  have HR:=Lib.hid (show(ae.ts l).all p=true from List.all_eq_true.2 λt ht=>by
   rw[ae.rH]at ht
   obtain⟨x,hx,rfl⟩:=List.mem_map.1 ht
   obtain⟨i,hi,rfl⟩:=List.mem_iff_getElem.1 hx
   exact mf.out i hi hi)
  go_wp2_with fail
  go_ret
  exact⟨aj HR.out.symm,bq.out⟩
end
end Go.Proofs.YtadecgbblajifaaGreatDoor
