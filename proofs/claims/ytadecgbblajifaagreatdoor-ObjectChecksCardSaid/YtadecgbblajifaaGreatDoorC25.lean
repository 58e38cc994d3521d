import Derived.Test.YtadecgbblajifaaGreatDoorC24
import Derived.Below
set_option linter.unusedSimpArgs false
set_option linter.unusedVariables false
set_option maxRecDepth 100000
set_option maxHeartbeats 25600000
namespace Go.Proofs.YtadecgbblajifaaGreatDoor
section
open Go.RowKit Go.Instr
structure jX where
 slots:List ay
 cells:Int
 stacks:Int
abbrev ay.val (s:ay):Value := .agg #[.string s.name,.int .u8 s.kind,.int .i64 s.len,.int .i64 s.at']
structure mY (w:World) (sv:Value) (f:jX):Prop where
 row:aA 4 ay.cells w sv f.slots
theorem mY.later {w w':World} {sv:Value} {f:jX} (h:mY w sv f) (hm:Grow w w'):mY w' sv f:=⟨h.row.later hm⟩
def dX (name:ByteArray) (kind:Int) (s:ay):Bool:=s.name == name && s.kind == kind
def mR (f:jX) (name:ByteArray) (kind:Int):Option ay:=f.slots.find? (dX name kind)
def noSlot:ay:=⟨⟨#[]⟩,0,0,0⟩
def qZ (f:jX) (name:ByteArray) (kind:Int):Int:=match f.slots.findIdx? (dX name kind)with
 |some i=>i
 |none => -1
theorem Bu (f:jX) (name:ByteArray) (kind:Int) (j:Nat) (hj:j<f.slots.length) (h:dX name kind f.slots[j]=true) (hn:∀ i (hi:i<f.slots.length),i<j->dX name kind f.slots[i]=false):qZ f name kind=j/\mR f name kind=some f.slots[j]:=by
 have h1:f.slots.findIdx? (dX name kind)=some j:=by
  rw[List.findIdx?_eq_some_iff_getElem]
  exact⟨hj,h,λi hi=>by simp[hn i (by omega) hi]⟩
 refine⟨by unfold qZ;rw[h1],?_⟩
 unfold mR
 rw[List.find?_eq_some_iff_getElem]
 exact⟨h,j,hj,rfl,λi hi=>by simp[hn i (by omega) hi]⟩
theorem Bh (f:jX) (name:ByteArray) (kind:Int) (hn:∀ i (hi:i<f.slots.length),dX name kind f.slots[i]=false):qZ f name kind = -1/\mR f name kind=none:=by
 have hall:∀ x∈f.slots,dX name kind x=false:=λx hx=>by
  obtain⟨i,hi,rfl⟩:=List.mem_iff_getElem.1 hx
  exact hn i hi
 refine⟨by unfold qZ;rw[List.findIdx?_eq_none_iff.2 hall],List.find?_eq_none.2 λx hx=>by simp[hall x hx]⟩
theorem Fq (a b:ByteArray):(a.toList == b.toList)=(a == b):=by
 by_cases h:a=b
 · subst h;simp
 · have h2:(a == b)=false:=by simpa using h
   rw[h2]
   rw[beq_eq_false_iff_ne]
   intro e
   exact h (by
    cases a with|mk x=>cases b with|mk y =>
    rw[ByteArray.toList_eq,ByteArray.toList_eq]at e
    simp at e
    rw[e])
set_option maxRecDepth 100000 in
set_option maxHeartbeats 1600000 in
theorem Js (s:ay) (name:ByteArray) (kind:Int) (p q:Nat) (w:World) (tn tk:TypeId) (hp:w.heap[p]? = some (.cells #[.string name] tn (0,0))) (hq:w.heap[q]? = some (.cells #[.int .u8 kind] tk (0,0))) :
 Calls Tryz.prog 118 #[s.val,.pointer (some ⟨p,0,none⟩),.pointer (some ⟨q,0,none⟩)] w (gQ w (dX name kind s)):=by
 obtain⟨sn,sk,sl,sa⟩:=s
 have hp0:w.cell? ⟨p,0,none⟩=some (.string name):=by simp[World.cell?,hp]
 have hq0:w.cell? ⟨q,0,none⟩=some (.int .u8 kind):=by simp[World.cell?,hq]
 have hpl:=lt_of_block hp
 have Q9:=lt_of_block hq
 have HG:=Lib.hid (show Grow w (w.alloc (.cells #[.string sn,.int .u8 sk,.int .i64 sl,.int .i64 sa] 89))from(Mv.refl _ _).alloc _)
 have hbb:=Fq sn name
 clear hp hq
 by_cases h1:(sn == name)=true
 · rw[h1]at hbb
   have HR:=Lib.hid (show dX name kind ⟨sn,sk,sl,sa⟩=(sk == kind)from by simp[dX,h1])
   go_enter Tryz.func118,Tryz.ntmps118
   go_wp2_with fail
   go_ret
   exact⟨aj HR.out.symm,HG.out⟩
 · have h2:(sn == name)=false:=by simpa using h1
   rw[h2]at hbb
   have HR:=Lib.hid (show dX name kind ⟨sn,sk,sl,sa⟩=false from by simp[dX,h2])
   clear h1
   go_enter Tryz.func118,Tryz.ntmps118
   go_wp2_with fail
   go_ret
   exact⟨aj HR.out.symm,HG.out⟩
set_option maxRecDepth 100000 in
set_option maxHeartbeats 1600000 in
theorem I5 (sv:Value) (f:jX) (name:ByteArray) (kind:Int) (p q:Nat) (w:World) (tn tk:TypeId) (hf:mY w sv f) (hp:w.heap[p]? = some (.cells #[.string name] tn (0,0))) (hq:w.heap[q]? = some (.cells #[.int .u8 kind] tk (0,0))) :
 Calls Tryz.prog 117 #[sv,.func (.func 118) #[] #[.pointer (some ⟨p,0,none⟩),.pointer (some ⟨q,0,none⟩)]] w λe w'=>e = .returned (.int .i64 (qZ f name kind))/\Grow w w':=by
 obtain⟨fa,fc,rfl,hfc,hfl⟩:=hf.row.form
 have HF:=Lib.hid hf
 have HP:=Lib.hid hp
 have HQ:=Lib.hid hq
 clear hf hp hq
 go_enter Tryz.func117,Tryz.ntmps117
 go_wp2_with fail
 go_loopw [8] (λt wr=>∃ j:Nat,t = .int .i64 j/\j<=f.slots.length/\(∀ i (hi:i<f.slots.length),i<j->dX name kind f.slots[i]=false)/\Grow w wr) (λt _=>f.slots.length - (intOf t).toNat)
 case atStart=>exact⟨0,rfl,Nat.zero_le _,λi _ h=>by omega,Mv.refl _ _⟩
 obtain⟨j,rfl,hj,hno,hgr⟩:=hrel
 have oC:=Lib.hid hno
 have bq:=Lib.hid hgr
 clear hno hgr
 by_cases hlt:j<f.slots.length
 · obtain⟨b,off,cap',e,_,hcc⟩:=(HF.out.row.later bq.out).at hlt
   simp only[Value.slice.injEq,true_and]at e
   obtain⟨rfl,rfl⟩:=e
   have c0:=hcc 0 _ rfl
   have c1:=hcc 1 _ rfl
   have c2:=hcc 2 _ rfl
   have c3:=hcc 3 _ rfl
   simp only[Nat.add_zero]at c0
   have hbl:b<wr.heap.size:=World.block_lt_of_cell? wr _ c0
   have HC:=Lib.hid (Js f.slots[j] name kind p q wr tn tk (dU HP.out bq.out) (dU HQ.out bq.out))
   have qB:=Lib.hid (λh=>Bu f name kind j hlt h oC.out)
   have HST:=Lib.hid (show(dX name kind f.slots[j]=false->∀ i (hi:i<f.slots.length),i<j+1->dX name kind f.slots[i]=false)from λh i hi hij=>by
    rcases Nat.lt_or_ge i j with h3|h3
    · exact oC.out i hi h3
    · obtain rfl:i=j:=by omega
      exact h)
   generalize dX name kind f.slots[j]=bv at *
   generalize f.slots[j]=x at HC qB c0 c1 c2 c3
   obtain⟨xn,xk,xl,xa⟩:=x
   simp only at c0 c1 c2 c3 HC
   clear hcc
   go_wp2_with fail
   refine HC.out.mono ?_
   rintro e w2 ⟨rfl,hg2⟩
   have HG2:=Lib.hid (Mv.trans bq.out hg2 (λ_ e=>e.elim))
   clear hg2
   cases bv with
   |true =>
    have HR:=Lib.hid (qB.out rfl).1
    go_wp2_with fail
    go_ret
    exact⟨fG HR.out.symm,HG2.out⟩
   |false =>
    have nY:=Lib.hid (HST.out rfl)
    go_wp2_with fail
    go_roundw
    case rel=>exact⟨j+1,by go_num,by omega,nY.out,HG2.out⟩
    case measure=>simp[intOf];omega
 obtain rfl:j=f.slots.length:=by omega
 have HR:=Lib.hid (Bh f name kind (λi hi=>oC.out i hi hi)).1
 go_wp2_with fail
 go_ret
 exact⟨fG HR.out.symm,bq.out⟩
theorem Fs {w:World} {X:Nat} {a b c d:Value} {t:TypeId} (h:w.heap[X]? = some (.cells #[a,b,c,d] t (0,0))) (p q r s:Value) :
 ((((w.setCell ⟨X,0,none⟩ p).setCell ⟨X,1,none⟩ q).setCell ⟨X,2,none⟩ r).setCell ⟨X,3,none⟩ s).heap[X]? = some (.cells #[p,q,r,s] t (0,0))/\Mv (λb=>b=X) w ((((w.setCell ⟨X,0,none⟩ p).setCell ⟨X,1,none⟩ q).setCell ⟨X,2,none⟩ r).setCell ⟨X,3,none⟩ s):=by
 constructor
 · have h1:=block_setCell (p:=⟨X,0,none⟩) h rfl p
   have h2:=block_setCell (p:=⟨X,1,none⟩) h1 rfl q
   have h3:=block_setCell (p:=⟨X,2,none⟩) h2 rfl r
   have h4:=block_setCell (p:=⟨X,3,none⟩) h3 rfl s
   simpa using h4
 · exact((((Mv.refl (λb=>b=X) w).setCell (p:=⟨X,0,none⟩) (.inl rfl) _).setCell (p:=⟨X,1,none⟩) (.inl rfl) _).setCell (p:=⟨X,2,none⟩) (.inl rfl) _).setCell (p:=⟨X,3,none⟩) (.inl rfl) _
theorem Dr {w:World} {X:Nat} {c:Array Value} {t:TypeId} (h:w.heap[X]? = some (.cells c t (0,0))) (i:Nat):w.frozen? ⟨X,i,none⟩=false:=by simp[World.frozen?,h]
set_option maxRecDepth 100000 in
set_option maxHeartbeats 1600000 in
theorem J6 (sv:Value) (f:jX) (name:ByteArray) (kind:Int) (w:World) (hf:mY w sv f) :
 Calls Tryz.prog 79 #[.agg #[sv,.int .i64 f.cells,.int .i64 f.stacks],.string name,.int .u8 kind] w λe w'=>e = .returned (.tuple #[((mR f name kind).getD noSlot).val,.bool (mR f name kind).isSome])/\Grow w w':=by
 obtain⟨fa,fc,rfl,hfc,hfl⟩:=hf.row.form
 have HF:=Lib.hid hf
 clear hf
 have hg1:Grow w ((((w.alloc (.cells #[.slice fa f.slots.length fc,.int .i64 f.cells,.int .i64 f.stacks] 33)).alloc (.cells #[.string name] 9)).alloc (.cells #[.int .u8 kind] 5)).alloc (.cells #[.string ⟨#[]⟩,.int .u8 0,.int .i64 0,.int .i64 0] 89)):=((((Mv.refl _ _).alloc _).alloc _).alloc _).alloc _
 have hB:=lh (lh (lh (heap_alloc_new w (.cells #[.slice fa f.slots.length fc,.int .i64 f.cells,.int .i64 f.stacks] 33)) (.cells #[.string name] 9)) (.cells #[.int .u8 kind] 5)) (.cells #[.string ⟨#[]⟩,.int .u8 0,.int .i64 0,.int .i64 0] 89)
 have hN:=lh (lh (heap_alloc_new (w.alloc (.cells #[.slice fa f.slots.length fc,.int .i64 f.cells,.int .i64 f.stacks] 33)) (.cells #[.string name] 9)) (.cells #[.int .u8 kind] 5)) (.cells #[.string ⟨#[]⟩,.int .u8 0,.int .i64 0,.int .i64 0] 89)
 have hK:=lh (heap_alloc_new ((w.alloc (.cells #[.slice fa f.slots.length fc,.int .i64 f.cells,.int .i64 f.stacks] 33)).alloc (.cells #[.string name] 9)) (.cells #[.int .u8 kind] 5)) (.cells #[.string ⟨#[]⟩,.int .u8 0,.int .i64 0,.int .i64 0] 89)
 have hZ:=heap_alloc_new (((w.alloc (.cells #[.slice fa f.slots.length fc,.int .i64 f.cells,.int .i64 f.stacks] 33)).alloc (.cells #[.string name] 9)).alloc (.cells #[.int .u8 kind] 5)) (.cells #[.string ⟨#[]⟩,.int .u8 0,.int .i64 0,.int .i64 0] 89)
 simp only[World.size_alloc]at hN hK hZ
 have tC:=Lib.hid hg1
 have HB:=Lib.hid hB
 have HZ:=Lib.hid hZ
 have Ia:=Lib.hid (I5 (.slice fa f.slots.length fc) f name kind (w.heap.size+1) (w.heap.size+1+1) _ _ _ (HF.out.later hg1) hN hK)
 clear hg1 hB hN hK hZ
 go_enter Tryz.func79,Tryz.ntmps79
 go_wp2_with fail
 generalize (((w.alloc (.cells #[.slice fa f.slots.length fc,.int .i64 f.cells,.int .i64 f.stacks] 33)).alloc (.cells #[.string name] 9)).alloc (.cells #[.int .u8 kind] 5)).alloc (.cells #[.string ⟨#[]⟩,.int .u8 0,.int .i64 0,.int .i64 0] 89)=w1 at *
 refine Ia.out.mono ?_
 rintro e w2 ⟨rfl,hg2⟩
 have hB2:=dU HB.out hg2
 have hZ2:=dU HZ.out hg2
 have HG2:=Lib.hid (Mv.trans tC.out hg2 (λ_ e=>e.elim))
 have HZ2:=Lib.hid hZ2
 have b0:w2.cell? ⟨w.heap.size,0,none⟩=some (.slice fa f.slots.length fc):=by simp[World.cell?,hB2]
 have hlb:=lt_of_block hB2
 have hlz:=lt_of_block hZ2
 obtain⟨z0,z1,z2,z3⟩:=eY hZ2
 have zt:=Dr hZ2
 clear hg2 hB2 hZ2 Ia
 by_cases hex:∃ j,∃ hj:j<f.slots.length,dX name kind f.slots[j]=true/\∀ i (hi:i<f.slots.length),i<j->dX name kind f.slots[i]=false
 · obtain⟨j,hj,hhit,hno⟩:=hex
   obtain⟨hix,hfs⟩:=Bu f name kind j hj hhit hno
   have qy:=Lib.hid hfs
   rw[hix]
   obtain⟨b,off,cap',e,_,hcc⟩:=(HF.out.row.later HG2.out).at hj
   simp only[Value.slice.injEq,true_and]at e
   obtain⟨rfl,rfl⟩:=e
   have c0:=hcc 0 _ rfl
   have c1:=hcc 1 _ rfl
   have c2:=hcc 2 _ rfl
   have c3:=hcc 3 _ rfl
   simp only[Nat.add_zero]at c0
   have hbl:b<w2.heap.size:=World.block_lt_of_cell? w2 _ c0
   have hj0:¬ ((j:Int)<0):=by omega
   generalize f.slots[j]=x at qy c0 c1 c2 c3
   obtain⟨xn,xk,xl,xa⟩:=x
   simp only at c0 c1 c2 c3
   obtain⟨hY,hmv⟩:=Fs HZ2.out (.string xn) (.int .u8 xk) (.int .i64 xl) (.int .i64 xa)
   have HY:=Lib.hid hY
   have oD:=Lib.hid hmv
   clear hcc hhit hno hix hfs hY hmv
   go_wp2_with fail
   obtain⟨k0,k1,k2,k3⟩:=eY HY.out
   refine bodyPost_ret (v := .tuple #[.agg #[.string xn,.int .u8 xk,.int .i64 xl,.int .i64 xa],.bool true]) ?_ rfl ⟨by rw[qy.out];rfl,HG2.out.trans oD.out (λx e => .inr (by omega))⟩
   simp[results,Tryz.results79,go_sem,k0,k1,k2,k3]
 · have hno:∀ i (hi:i<f.slots.length),dX name kind f.slots[i]=false:=by
    intro i
    induction i using Nat.strongRecOn with
    |ind i ih =>
     intro hi
     cases hb:dX name kind f.slots[i]with
     |false=>rfl
     |true=>exact absurd ⟨i,hi,hb,λk hk hki=>ih k hki hk⟩ hex
   obtain⟨hix,hfs⟩:=Bh f name kind hno
   have qy:=Lib.hid hfs
   rw[hix]
   obtain⟨hY,hmv⟩:=Fs HZ2.out (.string ⟨#[]⟩) (.int .u8 0) (.int .i64 0) (.int .i64 0)
   have HY:=Lib.hid hY
   have oD:=Lib.hid hmv
   clear hno hix hfs hex hY hmv
   go_wp2_with fail
   obtain⟨k0,k1,k2,k3⟩:=eY HY.out
   refine bodyPost_ret (v := .tuple #[.agg #[.string ⟨#[]⟩,.int .u8 0,.int .i64 0,.int .i64 0],.bool false]) ?_ rfl ⟨by rw[qy.out];rfl,HG2.out.trans oD.out (λx e => .inr (by omega))⟩
   simp[results,Tryz.results79,go_sem,k0,k1,k2,k3]
structure NY where
 name:ByteArray
 params:List aH
 body:Tree
structure ed where
 name:ByteArray
 params:List aH
 pv:Value
 body:ae
def ed.d (p:ed):NY:=⟨p.name,p.params,p.body.t⟩
def ed.cells (p:ed):List Value := .string p.name :: p.pv :: p.body.cells
def ed.val:ed->Value
 |⟨s,_,pv,.mk k n bs kv _⟩ => .agg #[.string s,pv,.int .u8 k,.int .i64 n,.string bs,kv]
structure nC (w:World) (p:ed):Prop where
 name:p.name.size<=9223372036854775807
 params:aA 3 aH.cells w p.pv p.params
 body:dS w p.body
theorem nC.later {w w':World} {p:ed} (h:nC w p) (hm:Grow w w'):nC w' p:=⟨h.name,h.params.later hm,h.body.later hm⟩
structure qV (w:World) (v:Value) (l:List ed):Prop where
 row:aA 6 ed.cells w v l
 each:∀ p∈l,nC w p
theorem qV.later {w w':World} {v:Value} {l:List ed} (h:qV w v l) (hm:Grow w w'):qV w' v l:=⟨h.row.later hm,λp hp=>(h.each p hp).later hm⟩
def Ns:ed:=⟨⟨#[]⟩,[],.slice none 0 0,.mk 0 0 ⟨#[]⟩ (.slice none 0 0) []⟩
def qK (l:List ed) (s:ByteArray):Option ed:=l.find? (λp=>p.name == s)
theorem IJ (l:List ed) (s:ByteArray) (j:Nat) (hj:j<l.length) (h:(l[j].name == s)=true) (hn:∀ i (hi:i<l.length),i<j->(l[i].name == s)=false):qK l s=some l[j]:=by
 unfold qK
 rw[List.find?_eq_some_iff_getElem]
 exact⟨h,j,hj,rfl,λi hi=>by simp[hn i (by omega) hi]⟩
theorem Iu (l:List ed) (s:ByteArray) (hn:∀ i (hi:i<l.length),(l[i].name == s)=false):qK l s=none:=by
 refine List.find?_eq_none.2 λx hx => ?_
 obtain⟨i,hi,rfl⟩:=List.mem_iff_getElem.1 hx
 simp[hn i hi]
theorem nC.form {w:World} {n:ByteArray} {p:List aH} {pv:Value} {b:ae} (h:nC w ⟨n,p,pv,b⟩):∃ a c,pv = .slice a p.length c/\p.length<=c/\p.length<=9223372036854775807:=h.params.form
theorem Fu {w:World} {X:Nat} {a0 a1 a2 a3 a4 a5:Value} {t:TypeId} (h:w.heap[X]? = some (.cells #[a0,a1,a2,a3,a4,a5] t (0,0))) (b0 b1 b2 b3 b4 b5:Value) :
 ((((((w.setCell ⟨X,0,none⟩ b0).setCell ⟨X,1,none⟩ b1).setCell ⟨X,2,none⟩ b2).setCell ⟨X,3,none⟩ b3).setCell ⟨X,4,none⟩ b4).setCell ⟨X,5,none⟩ b5).heap[X]? = some (.cells #[b0,b1,b2,b3,b4,b5] t (0,0)) /\
 Mv (λb=>b=X) w ((((((w.setCell ⟨X,0,none⟩ b0).setCell ⟨X,1,none⟩ b1).setCell ⟨X,2,none⟩ b2).setCell ⟨X,3,none⟩ b3).setCell ⟨X,4,none⟩ b4).setCell ⟨X,5,none⟩ b5):=by
 constructor
 · have h1:=block_setCell (p:=⟨X,0,none⟩) h rfl b0
   have h2:=block_setCell (p:=⟨X,1,none⟩) h1 rfl b1
   have h3:=block_setCell (p:=⟨X,2,none⟩) h2 rfl b2
   have h4:=block_setCell (p:=⟨X,3,none⟩) h3 rfl b3
   have h5:=block_setCell (p:=⟨X,4,none⟩) h4 rfl b4
   have h6:=block_setCell (p:=⟨X,5,none⟩) h5 rfl b5
   simpa using h6
 · exact((((((Mv.refl (λb=>b=X) w).setCell (p:=⟨X,0,none⟩) (.inl rfl) _).setCell (p:=⟨X,1,none⟩) (.inl rfl) _).setCell (p:=⟨X,2,none⟩) (.inl rfl) _).setCell (p:=⟨X,3,none⟩) (.inl rfl) _).setCell (p:=⟨X,4,none⟩) (.inl rfl) _).setCell (p:=⟨X,5,none⟩) (.inl rfl) _
theorem wU {w:World} {X:Nat} {c0 c1 c2 c3 c4 c5:Value} {t:TypeId} (h:w.heap[X]? = some (.cells #[c0,c1,c2,c3,c4,c5] t (0,0))):(w.cell? ⟨X,0,none⟩=some c0/\w.cell? ⟨X,1,none⟩=some c1/\w.cell? ⟨X,2,none⟩=some c2)/\w.cell? ⟨X,3,none⟩=some c3/\w.cell? ⟨X,4,none⟩=some c4/\w.cell? ⟨X,5,none⟩=some c5:=by
 simp[World.cell?,h]
set_option maxRecDepth 100000 in
set_option maxHeartbeats 1600000 in
theorem P8 (v:Value) (l:List ed) (s:ByteArray) (w:World) (hp:qV w v l) :
 Calls Tryz.prog 185 #[v,.string s] w λe w'=>e = .returned (.tuple #[((qK l s).getD Ns).val,.bool (qK l s).isSome])/\Grow w w':=by
 obtain⟨pa,pc,rfl,hpc,hpl⟩:=hp.row.form
 have HP:=Lib.hid hp
 clear hp
 have tC:=Lib.hid (show Grow w (w.alloc (.cells #[.string ⟨#[]⟩,.slice none 0 0,.int .u8 0,.int .i64 0,.string ⟨#[]⟩,.slice none 0 0] 48))from(Mv.refl _ _).alloc _)
 have HZ:=Lib.hid (heap_alloc_new w (.cells #[.string ⟨#[]⟩,.slice none 0 0,.int .u8 0,.int .i64 0,.string ⟨#[]⟩,.slice none 0 0] 48))
 go_enter Tryz.func185,Tryz.ntmps185
 go_wp2_with fail
 generalize w.alloc (.cells #[.string ⟨#[]⟩,.slice none 0 0,.int .u8 0,.int .i64 0,.string ⟨#[]⟩,.slice none 0 0] 48)=w1 at *
 go_loopw [10] (λt wr=>∃ j:Nat,t = .int .i64 j/\j<=l.length/\(∀ i (hi:i<l.length),i<j->(l[i].name == s)=false)/\Grow w1 wr) (λt _=>l.length - (intOf t).toNat)
 case atStart=>exact⟨0,rfl,Nat.zero_le _,λi _ h=>by omega,Mv.refl _ _⟩
 obtain⟨j,rfl,hj,hno,hgr⟩:=hrel
 have oC:=Lib.hid hno
 have bq:=Lib.hid hgr
 have je:=Lib.hid (Mv.trans tC.out hgr (λ_ e=>e.elim))
 have hZ:=dU HZ.out hgr
 have Ib:=Lib.hid hZ
 have hlz:=lt_of_block hZ
 obtain⟨⟨z0,z1,z2⟩,z3,z4,z5⟩:=wU hZ
 have zt:=Dr hZ
 clear hno hgr hZ
 by_cases hlt:j<l.length
 · obtain⟨b,off,cap',e,_,hcc⟩:=(HP.out.row.later je.out).at hlt
   simp only[Value.slice.injEq,true_and]at e
   obtain⟨rfl,rfl⟩:=e
   have hxo:=HP.out.each l[j] (List.getElem_mem hlt)
   have qB:=Lib.hid (λh=>IJ l s j hlt h oC.out)
   have HST:=Lib.hid (show((l[j].name == s)=false->∀ i (hi:i<l.length),i<j+1->(l[i].name == s)=false)from λh i hi hij=>by
    rcases Nat.lt_or_ge i j with h3|h3
    · exact oC.out i hi h3
    · obtain rfl:i=j:=by omega
      exact h)
   generalize l[j]=x at qB HST hxo hcc
   obtain⟨xn,xp,Ra,xb⟩:=x
   obtain⟨xa,xc,rfl,-,-⟩:=hxo.form
   have AV:=hxo.body
   obtain⟨bk,bn,bs,Rb,bl⟩:=xb
   simp only at AV
   obtain⟨ba,bc,rfl,-,-⟩:=AV.form
   have c0:=hcc 0 _ rfl
   have c1:=hcc 1 _ rfl
   have c2:=hcc 2 _ rfl
   have c3:=hcc 3 _ rfl
   have c4:=hcc 4 _ rfl
   have c5:=hcc 5 _ rfl
   simp only[Nat.add_zero]at c0
   simp only at qB HST
   have hbl:b<wr.heap.size:=World.block_lt_of_cell? wr _ c0
   have hbb:=Fq xn s
   generalize hbv:(xn == s)=bv at *
   have aN:=Lib.hid (bq.out.alloc (.cells #[.string xn,.slice xa xp.length xc,.int .u8 bk,.int .i64 bn,.string bs,.slice ba bl.length bc] 48))
   clear hcc hxo AV hbv
   cases bv with
   |true =>
    have HR:=Lib.hid (qB.out rfl)
    obtain⟨hY,hmv⟩:=Fu Ib.out (.string xn) (.slice xa xp.length xc) (.int .u8 bk) (.int .i64 bn) (.string bs) (.slice ba bl.length bc)
    have HY:=Lib.hid (lh hY (.cells #[.string xn,.slice xa xp.length xc,.int .u8 bk,.int .i64 bn,.string bs,.slice ba bl.length bc] 48))
    have oD:=Lib.hid (je.out.trans hmv (λx e => .inr (by omega)))
    clear hY hmv
    go_wp2_with fail
    obtain⟨⟨k0,k1,k2⟩,k3,k4,k5⟩:=wU HY.out
    refine bodyPost_ret (v := .tuple #[.agg #[.string xn,.slice xa xp.length xc,.int .u8 bk,.int .i64 bn,.string bs,.slice ba bl.length bc],.bool true]) ?_ rfl ⟨by rw[HR.out];rfl,oD.out.alloc _⟩
    simp[results,Tryz.results185,go_sem,k0,k1,k2,k3,k4,k5]
   |false =>
    have nY:=Lib.hid (HST.out rfl)
    go_wp2_with fail
    go_roundw
    case rel=>exact⟨j+1,by go_num,by omega,nY.out,aN.out⟩
    case measure=>simp[intOf];omega
 obtain rfl:j=l.length:=by omega
 have HR:=Lib.hid (Iu l s (λi hi=>oC.out i hi hi))
 obtain⟨hY,hmv⟩:=Fu Ib.out (.string ⟨#[]⟩) (.slice none 0 0) (.int .u8 0) (.int .i64 0) (.string ⟨#[]⟩) (.slice none 0 0)
 have HY:=Lib.hid hY
 have oD:=Lib.hid (je.out.trans hmv (λx e => .inr (by omega)))
 clear hY hmv
 go_wp2_with fail
 obtain⟨⟨k0,k1,k2⟩,k3,k4,k5⟩:=wU HY.out
 refine bodyPost_ret (v := .tuple #[.agg #[.string ⟨#[]⟩,.slice none 0 0,.int .u8 0,.int .i64 0,.string ⟨#[]⟩,.slice none 0 0],.bool false]) ?_ rfl ⟨by rw[HR.out];rfl,oD.out⟩
 simp[results,Tryz.results185,go_sem,k0,k1,k2,k3,k4,k5]
set_option maxRecDepth 100000 in
set_option maxHeartbeats 1600000 in
theorem P9 (sv pv:Value) (f:jX) (name:ByteArray) (kind:Int) (w:World) (hf:mY w sv f) (pa:Option Addr) (pn pc:Nat) (hpv:pv = .slice pa pn pc) :
 Calls Tryz.prog 183 #[.agg #[sv,.int .i64 f.cells,.int .i64 f.stacks,pv],.string name,.int .u8 kind] w (gQ w (mR f name kind).isSome):=by
 subst hpv
 obtain⟨fa,fc,rfl,hfc,hfl⟩:=hf.row.form
 have HG:=Lib.hid (show Grow w (w.alloc (.cells #[.slice fa f.slots.length fc,.int .i64 f.cells,.int .i64 f.stacks,.slice pa pn pc] 141))from(Mv.refl _ _).alloc _)
 have HF:=Lib.hid (J6 (.slice fa f.slots.length fc) f name kind (w.alloc (.cells #[.slice fa f.slots.length fc,.int .i64 f.cells,.int .i64 f.stacks,.slice pa pn pc] 141)) (hf.later HG.out))
 clear hf
 go_enter Tryz.func183,Tryz.ntmps183
 go_wp2_with fail
 refine HF.out.mono ?_
 rintro e w2 ⟨rfl,hg2⟩
 have HG2:=Lib.hid (Mv.trans HG.out hg2 (λ_ e=>e.elim))
 clear hg2 HF
 generalize (mR f name kind).getD noSlot=sl at *
 obtain⟨s0,s1,s2,s3⟩:=sl
 simp only
 go_wp2_with fail
 go_ret
 exact⟨rfl,HG2.out.alloc _⟩
end
section
open Go.RowKit Go.Deep Go.Instr
theorem uj (b off k:Nat):(⟨b,off,none⟩:Addr).add k=⟨b,off+k,none⟩:=by unfold Addr.add;split <;> simp_all
section
variable {H:Type} {enc:TypeId × Value->H} {W:World}
abbrev Wt (t:TypeId) (d:DataW H):Prop:=(d.weights Tryz.prog t).all (· <= reachBytes)=true
theorem wN {e:TypeId} : ∀ {l:List (DataW H)} {d:DataW H},d∈l->(DataW.weightsAll Tryz.prog e l).all (· <= reachBytes)=true->Wt e d
 | [],d,h,_=>by cases h
 |x :: r,d,h,hw=>by
  simp only[DataW.weightsAll,List.all_append,Bool.and_eq_true]at hw
  rcases List.mem_cons.1 h with rfl|h
  · exact hw.1
  · exact wN h hw.2
theorem open_row {α:Type} (f:α->List Value) (n:Nat) {t e:TypeId} (ht:Tryz.prog.underlying t=some (.slice e)) (hc:Tryz.prog.cellsOf e=n) (hn:0<n) (hfl:∀ a,(f a).length=n) (Ok:α->Prop)
 (hopen:∀ (fuel:Nat) (cs:List Value) (y:DataW H × List MemPlace),DataW.trod enc Tryz.prog W 0 (λ_=>true) true fuel e cs=some y->Wt e y.1->∃ a,cs=f a/\Ok a)
 {fuel:Nat} {cs:List Value} {x:DataW H × List MemPlace} (h:DataW.trod enc Tryz.prog W 0 (λ_=>true) true fuel t cs=some x) (hw:Wt t x.1) :
 ∃ v l,cs=[v]/\aA n f W v l/\(∀ a∈l,Ok a)/\l.length * Tryz.prog.bytesOf e<=reachBytes:=by
 rcases open_slice ht h with⟨hcs,hx⟩|⟨a,len,cap,m,k,D,Pl,hcs,_,hl,hm,hme,hx,hel⟩
 · exact⟨_,[],hcs,aA.nil _ _ _,by simp,by simp⟩
 · simp only[if_true]at hme
   subst hme
   subst hx
   simp only[Wt,DataW.weights,ht,List.all_cons,List.all_append,Bool.and_eq_true,decide_eq_true_eq,List.length_map,List.length_range]at hw
   obtain⟨hw1,hw2,hw3⟩:=hw
   rw[hc]at hel
   have zT:∀ i:Fin len,∃ o:α,W.cells? 0 (a.add (i.1 * n)) n=some (f o)/\Ok o:=by
    intro i
    obtain⟨cs',hc1,ht1⟩:=hel i.1 (by have:=i.2;omega)
    obtain⟨o,rfl,hok⟩:=hopen _ _ _ ht1 (wN (List.mem_map.2 ⟨i.1,List.mem_range.2 i.2,rfl⟩) hw2)
    exact⟨o,hc1,hok⟩
   obtain⟨o,ho⟩:=Classical.axiomOfChoice zT
   refine⟨_,List.ofFn o,hcs,⟨some a,m,by simp,by simpa using hl,by unfold maxLen at hm;simp;omega,λi x hx => ?_⟩,λx hx => ?_,?_⟩
   · have hi:i<len:=by have:=(List.getElem?_eq_some_iff.1 hx).1;simpa using this
     simp[hi]at hx
     subst hx
     have hcell:∀ j (hj:j<len) r (u:Value),(f (o ⟨j,hj⟩))[r]? = some u->W.cell? ((a.add (j * n)).add r)=some u:=by
      intro j hj r u hu
      obtain⟨_,_,hcc⟩:=World.cells?_some (ho ⟨j,hj⟩).1
      have hr:r<n:=by rw[← hfl (o ⟨j,hj⟩)];exact(List.getElem?_eq_some_iff.1 hu).1
      rw[hcc r hr];exact hu
     have hsp:a.spot=none:=by
      have hz:0<len:=by omega
      have h0:(f (o ⟨0,hz⟩))[0]? = some ((f (o ⟨0,hz⟩))[0]'(by rw[hfl];exact hn)):=List.getElem?_eq_getElem _
      have:=World.cell?_spot (hcell 0 hz 0 _ h0)
      simpa[Addr.add]using this
     obtain⟨b,off,spot⟩:=a
     simp only at hsp
     subst hsp
     refine⟨b,off,rfl,λr u hu => ?_⟩
     have:=hcell i hi r u hu
     rw[uj,uj]at this
     exact this
   · obtain⟨i,rfl⟩:=(List.mem_ofFn).1 hx
     exact(ho i).2
   · simp only[List.length_ofFn]
     refine Nat.le_trans ?_ hw1
     exact Nat.mul_le_mul_right _ (by omega)
theorem J7 {α:Type} (f:α->List Value) (n:Nat) {t e:TypeId} (ht:Tryz.prog.underlying t=some (.slice e)) (hc:Tryz.prog.cellsOf e=n) (hn:0<n) (hfl:∀ a,(f a).length=n) (Ok:α->Prop)
 {x:DataW H × List MemPlace} (hopen:∀ (fuel:Nat) (cs:List Value) (y:DataW H × List MemPlace),SizeOf.sizeOf y.1<SizeOf.sizeOf x.1->DataW.trod enc Tryz.prog W 0 (λ_=>true) true fuel e cs=some y->Wt e y.1->∃ a,cs=f a/\Ok a)
 {fuel:Nat} {cs:List Value} (h:DataW.trod enc Tryz.prog W 0 (λ_=>true) true fuel t cs=some x) (hw:Wt t x.1) :
 ∃ v l,cs=[v]/\aA n f W v l/\(∀ a∈l,Ok a)/\l.length * Tryz.prog.bytesOf e<=reachBytes:=by
 rcases open_slice ht h with⟨hcs,hx⟩|⟨a,len,cap,m,k,D,Pl,hcs,_,hl,hm,hme,hx,hel⟩
 · exact⟨_,[],hcs,aA.nil _ _ _,by simp,by simp⟩
 · simp only[if_true]at hme
   subst hme
   subst hx
   simp only[Wt,DataW.weights,ht,List.all_cons,List.all_append,Bool.and_eq_true,decide_eq_true_eq,List.length_map,List.length_range]at hw
   obtain⟨hw1,hw2,hw3⟩:=hw
   rw[hc]at hel
   have zT:∀ i:Fin len,∃ o:α,W.cells? 0 (a.add (i.1 * n)) n=some (f o)/\Ok o:=by
    intro i
    obtain⟨cs',hc1,ht1⟩:=hel i.1 (by have:=i.2;omega)
    have hsz:SizeOf.sizeOf (D i.1)<SizeOf.sizeOf (DataW.slice ((List.range len).map D) ((List.range (m - len)).map λj=>D (len+j))):=by
     have:=List.sizeOf_lt_of_mem (List.mem_map.2 ⟨i.1,List.mem_range.2 i.2,rfl⟩:D i.1∈(List.range len).map D)
     simp only[DataW.slice.sizeOf_spec];omega
    obtain⟨o,rfl,hok⟩:=hopen _ _ _ hsz ht1 (wN (List.mem_map.2 ⟨i.1,List.mem_range.2 i.2,rfl⟩) hw2)
    exact⟨o,hc1,hok⟩
   obtain⟨o,ho⟩:=Classical.axiomOfChoice zT
   refine⟨_,List.ofFn o,hcs,⟨some a,m,by simp,by simpa using hl,by unfold maxLen at hm;simp;omega,λi x hx => ?_⟩,λx hx => ?_,?_⟩
   · have hi:i<len:=by have:=(List.getElem?_eq_some_iff.1 hx).1;simpa using this
     simp[hi]at hx
     subst hx
     have hcell:∀ j (hj:j<len) r (u:Value),(f (o ⟨j,hj⟩))[r]? = some u->W.cell? ((a.add (j * n)).add r)=some u:=by
      intro j hj r u hu
      obtain⟨_,_,hcc⟩:=World.cells?_some (ho ⟨j,hj⟩).1
      have hr:r<n:=by rw[← hfl (o ⟨j,hj⟩)];exact(List.getElem?_eq_some_iff.1 hu).1
      rw[hcc r hr];exact hu
     have hsp:a.spot=none:=by
      have hz:0<len:=by omega
      have h0:(f (o ⟨0,hz⟩))[0]? = some ((f (o ⟨0,hz⟩))[0]'(by rw[hfl];exact hn)):=List.getElem?_eq_getElem _
      have:=World.cell?_spot (hcell 0 hz 0 _ h0)
      simpa[Addr.add]using this
     obtain⟨b,off,spot⟩:=a
     simp only at hsp
     subst hsp
     refine⟨b,off,rfl,λr u hu => ?_⟩
     have:=hcell i hi r u hu
     rw[uj,uj]at this
     exact this
   · obtain⟨i,rfl⟩:=(List.mem_ofFn).1 hx
     exact(ho i).2
   · simp only[List.length_ofFn]
     refine Nat.le_trans ?_ hw1
     exact Nat.mul_le_mul_right _ (by omega)
theorem jh {n:Int} (h:(Lit.int .i64 n).wf=true):In64 n:=by
 simp only[Lit.wf,Bool.and_eq_true,decide_eq_true_eq]at h
 have e1:IntKind.i64.min = -9223372036854775808:=by decide
 have e2:IntKind.i64.max=9223372036854775807:=by decide
 rw[e1,e2]at h
 exact h
theorem EH {n:Int} (h:(Lit.int .u8 n).wf=true):0<=n/\n<=255:=by
 simp only[Lit.wf,Bool.and_eq_true,decide_eq_true_eq]at h
 have e1:IntKind.u8.min=0:=by decide
 have e2:IntKind.u8.max=255:=by decide
 rw[e1,e2]at h
 exact h
theorem Tryz.oQ:Tryz.prog.cellsOf 9=1:=by kernel_rfl
theorem Tryz.mU:Tryz.prog.cellsOf 3=1:=by kernel_rfl
theorem Tryz.uB:Tryz.prog.cellsOf 5=1:=by kernel_rfl
theorem Tryz.xO:Tryz.prog.cellsOf 75=3:=by kernel_rfl
theorem Tryz.xq:Tryz.prog.cellsOf 89=4:=by kernel_rfl
theorem Tryz.BQ:Tryz.prog.cellsOf 22=1:=by kernel_rfl
theorem Tryz.Bv:Tryz.prog.cellsOf 31=1:=by kernel_rfl
theorem Tryz.Bw:Tryz.prog.cellsOf 33=3:=by kernel_rfl
theorem Tryz.xu:Tryz.prog.cellsOf 26=4:=by kernel_rfl
theorem Tryz.Jt:Tryz.prog.cellsOf 24=1:=by kernel_rfl
theorem Tryz.BR:Tryz.prog.cellsOf 48=6:=by kernel_rfl
set_option maxRecDepth 100000 in
theorem CF (fuel:Nat) (cs:List Value) (y:DataW H × List MemPlace) (h:DataW.trod enc Tryz.prog W 0 (λ_=>true) true fuel 75 cs=some y) (_:Wt 75 y.1):∃ a:aH,cs=a.cells/\(a.name.size<=9223372036854775807/\In64 a.len):=by
 obtain⟨xs,m,rfl,rfl,hcl,hxl,hf⟩:=DataW.trod_struct Tryz.underlying75 h
 rw[Tryz.xO]at hcl
 match cs,hcl with
 | [c0,c1,c2],_ =>
  match xs,hxl with
  | [x0,x1,x2],_ =>
   have f0:=hf 0 _ rfl
   have f1:=hf 1 _ rfl
   have f2:=hf 2 _ rfl
   simp[Tryz.oQ,Tryz.mU,Tryz.uB]at f0 f1 f2
   obtain⟨s,e0,_,hs⟩:=DataW.trod_string Tryz.underlying9 f0
   obtain⟨k,e1,_,_⟩:=DataW.trod_int Tryz.underlying5 f1
   obtain⟨n,e2,_,hn⟩:=DataW.trod_int Tryz.underlying3 f2
   simp at e0 e1 e2
   subst e0 e1 e2
   exact⟨⟨s,k,n⟩,rfl,by unfold maxLen at hs;exact hs,jh hn⟩
set_option maxRecDepth 100000 in
theorem BU (fuel:Nat) (cs:List Value) (y:DataW H × List MemPlace) (h:DataW.trod enc Tryz.prog W 0 (λ_=>true) true fuel 89 cs=some y) (_:Wt 89 y.1):∃ a:ay,cs=a.cells/\(a.name.size<=9223372036854775807/\In64 a.len/\In64 a.at'):=by
 obtain⟨xs,m,rfl,rfl,hcl,hxl,hf⟩:=DataW.trod_struct Tryz.underlying89 h
 rw[Tryz.xq]at hcl
 match cs,hcl with
 | [c0,c1,c2,c3],_ =>
  match xs,hxl with
  | [x0,x1,x2,x3],_ =>
   have f0:=hf 0 _ rfl
   have f1:=hf 1 _ rfl
   have f2:=hf 2 _ rfl
   have f3:=hf 3 _ rfl
   simp[Tryz.oQ,Tryz.mU,Tryz.uB]at f0 f1 f2 f3
   obtain⟨s,e0,_,hs⟩:=DataW.trod_string Tryz.underlying9 f0
   obtain⟨k,e1,_,_⟩:=DataW.trod_int Tryz.underlying5 f1
   obtain⟨n,e2,_,hn⟩:=DataW.trod_int Tryz.underlying3 f2
   obtain⟨q,e3,_,hq⟩:=DataW.trod_int Tryz.underlying3 f3
   simp at e0 e1 e2 e3
   subst e0 e1 e2 e3
   exact⟨⟨s,k,n,q⟩,rfl,by unfold maxLen at hs;exact hs,jh hn,jh hq⟩
set_option maxRecDepth 100000 in
theorem BX:∀ (m:Nat) (fuel:Nat) (cs:List Value) (y:DataW H × List MemPlace),SizeOf.sizeOf y.1<=m->DataW.trod enc Tryz.prog W 0 (λ_=>true) true fuel 26 cs=some y->Wt 26 y.1->∃ x:ae,cs=x.cells/\dS W x
 |0,_,_,y,hm,_,_=>by
  obtain⟨y,z⟩:=y
  cases y <;> simp at hm
 |m+1,fuel,cs,y,hm,h,hw=>by
  obtain⟨xs,n',rfl,rfl,hcl,hxl,hf⟩:=DataW.trod_struct Tryz.underlying26 h
  rw[Tryz.xu]at hcl
  match cs,hcl with
  | [c0,c1,c2,c3],_ =>
   match xs,hxl with
   | [x0,x1,x2,x3],_ =>
    have f0:=hf 0 _ rfl
    have f1:=hf 1 _ rfl
    have f2:=hf 2 _ rfl
    have f3:=hf 3 _ rfl
    simp[Tryz.oQ,Tryz.mU,Tryz.uB,Tryz.Jt]at f0 f1 f2 f3
    simp only[Wt,DataW.weights,Tryz.underlying26,List.map_cons,List.map_nil,DataW.weightsEach,List.all_append,Bool.and_eq_true]at hw
    obtain⟨_,_,_,hw3,_⟩:=hw
    obtain⟨k,e0,_,hk⟩:=DataW.trod_int Tryz.underlying5 f0
    obtain⟨n,e1,_,hn⟩:=DataW.trod_int Tryz.underlying3 f1
    obtain⟨s,e2,_,hs⟩:=DataW.trod_string Tryz.underlying9 f2
    have gy:SizeOf.sizeOf x3.1<=m:=by
     simp only[List.map_cons,List.map_nil,DataW.agg.sizeOf_spec,List.cons.sizeOf_spec]at hm
     omega
    obtain⟨kv,kids,e3,hr,ho,_⟩:=J7 ae.cells 4 Tryz.underlying24 Tryz.xu (by decide) (λa=>by cases a;rfl) (dS W) (λfuel cs y hlt h1 h2=>BX m fuel cs y (by omega) h1 h2) f3 hw3
    simp at e0 e1 e2 e3
    subst e0 e1 e2 e3
    exact⟨.mk k n s _ kids,rfl,.mk (EH hk) (jh hn) (by unfold maxLen at hs;exact hs) hr ho⟩
set_option maxRecDepth 100000 in
theorem P5 (fuel:Nat) (cs:List Value) (y:DataW H × List MemPlace) (h:DataW.trod enc Tryz.prog W 0 (λ_=>true) true fuel 33 cs=some y) (hw:Wt 33 y.1):∃ (sv:Value) (f:jX),cs=[sv,.int .i64 f.cells,.int .i64 f.stacks]/\mY W sv f/\∀ s∈f.slots,In64 s.at':=by
 obtain⟨xs,m,rfl,rfl,hcl,hxl,hf⟩:=DataW.trod_struct Tryz.underlying33 h
 rw[Tryz.Bw]at hcl
 match cs,hcl with
 | [c0,c1,c2],_ =>
  match xs,hxl with
  | [x0,x1,x2],_ =>
   have f0:=hf 0 _ rfl
   have f1:=hf 1 _ rfl
   have f2:=hf 2 _ rfl
   simp[Tryz.mU,Tryz.Bv]at f0 f1 f2
   simp only[Wt,DataW.weights,Tryz.underlying33,List.map_cons,List.map_nil,DataW.weightsEach,List.all_append,Bool.and_eq_true]at hw
   obtain⟨sv,ss,e0,hsl,hso,_⟩:=open_row ay.cells 4 Tryz.underlying31 Tryz.xq (by decide) (λ_=>rfl) _ BU f0 hw.1
   obtain⟨cl,e1,_,_⟩:=DataW.trod_int Tryz.underlying3 f1
   obtain⟨st,e2,_,_⟩:=DataW.trod_int Tryz.underlying3 f2
   simp at e0 e1 e2
   subst e0 e1 e2
   exact⟨_,⟨ss,cl,st⟩,rfl,⟨hsl⟩,λs hs=>(hso s hs).2.2⟩
set_option maxRecDepth 100000 in
theorem J8 (fuel:Nat) (cs:List Value) (y:DataW H × List MemPlace) (h:DataW.trod enc Tryz.prog W 0 (λ_=>true) true fuel 48 cs=some y) (hw:Wt 48 y.1):∃ p:ed,cs=p.cells/\nC W p:=by
 obtain⟨xs,m,rfl,rfl,hcl,hxl,hf⟩:=DataW.trod_struct Tryz.underlying48 h
 rw[Tryz.BR]at hcl
 match cs,hcl with
 | [c0,c1,c2,c3,c4,c5],_ =>
  match xs,hxl with
  | [x0,x1,x2],_ =>
   have f0:=hf 0 _ rfl
   have f1:=hf 1 _ rfl
   have f2:=hf 2 _ rfl
   simp[Tryz.oQ,Tryz.BQ,Tryz.xu]at f0 f1 f2
   simp only[Wt,DataW.weights,Tryz.underlying48,List.map_cons,List.map_nil,DataW.weightsEach,List.all_append,Bool.and_eq_true]at hw
   obtain⟨s,e0,_,hs⟩:=DataW.trod_string Tryz.underlying9 f0
   obtain⟨pv,ps,e1,hp,hpo,_⟩:=open_row aH.cells 3 Tryz.underlying22 Tryz.xO (by decide) (λ_=>rfl) _ CF f1 hw.2.1
   obtain⟨x,e2,hx⟩:=BX _ _ _ _ (Nat.le_refl _) f2 hw.2.2.1
   simp at e0 e1
   subst e0 e1
   exact⟨⟨s,ps,_,x⟩,by rw[ed.cells,← e2],⟨by unfold maxLen at hs;exact hs,hp,hx⟩⟩
set_option maxRecDepth 100000 in
theorem P6 (fuel:Nat) (cs:List Value) (y:DataW H × List MemPlace) (h:DataW.trod enc Tryz.prog W 0 (λ_=>true) true fuel 23 cs=some y) (hw:Wt 23 y.1):∃ v l,cs=[v]/\qV W v l:=by
 obtain⟨v,l,e,hr,ho,_⟩:=open_row ed.cells 6 Tryz.underlying23 Tryz.BR (by decide) (λp=>by obtain⟨s,ps,pv,b⟩:=p;cases b;rfl) _ J8 h hw
 exact⟨v,l,e,hr,ho⟩
end
end
end Go.Proofs.YtadecgbblajifaaGreatDoor
