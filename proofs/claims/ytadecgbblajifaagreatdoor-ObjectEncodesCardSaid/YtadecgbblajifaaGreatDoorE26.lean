import Derived.Test.YtadecgbblajifaaGreatDoorE25
set_option linter.unusedSimpArgs false
set_option linter.unusedVariables false
set_option maxRecDepth 100000
set_option maxHeartbeats 25600000
namespace Go.Proofs.YtadecgbblajifaaGreatDoor
open Go.RowKit Go.Instr
structure fe where
 slots:List aI
 cells:Int
 stacks:Int
abbrev aI.val (s:aI):Value := .agg #[.string s.name,.int .u8 s.kind,.int .i64 s.len,.int .i64 s.at']
structure mE (w:World) (sv:Value) (f:fe):Prop where
 row:aB 4 aI.cells w sv f.slots
theorem mE.later {w w':World} {sv:Value} {f:fe} (h:mE w sv f) (hm:Grow w w'):mE w' sv f:=⟨h.row.later hm⟩
def iO (name:ByteArray) (kind:Int) (s:aI):Bool:=s.name == name && s.kind == kind
def aD (f:fe) (name:ByteArray) (kind:Int):Option aI:=f.slots.find? (iO name kind)
def noSlot:aI:=⟨⟨#[]⟩,0,0,0⟩
def AY (f:fe) (name:ByteArray) (kind:Int):Int:=match f.slots.findIdx? (iO name kind)with
 |some i=>i
 |none => -1
theorem NK (f:fe) (name:ByteArray) (kind:Int) (j:Nat) (hj:j<f.slots.length) (h:iO name kind f.slots[j]=true) (hn:∀ i (hi:i<f.slots.length),i<j->iO name kind f.slots[i]=false):AY f name kind=j/\aD f name kind=some f.slots[j]:=by
 have h1:f.slots.findIdx? (iO name kind)=some j:=by
  rw[List.findIdx?_eq_some_iff_getElem]
  exact⟨hj,h,λi hi=>by simp[hn i (by omega) hi]⟩
 refine⟨by unfold AY;rw[h1],?_⟩
 unfold aD
 rw[List.find?_eq_some_iff_getElem]
 exact⟨h,j,hj,rfl,λi hi=>by simp[hn i (by omega) hi]⟩
theorem Nv (f:fe) (name:ByteArray) (kind:Int) (hn:∀ i (hi:i<f.slots.length),iO name kind f.slots[i]=false):AY f name kind = -1/\aD f name kind=none:=by
 have hall:∀ x∈f.slots,iO name kind x=false:=λx hx=>by
  obtain⟨i,hi,rfl⟩:=List.mem_iff_getElem.1 hx
  exact hn i hi
 refine⟨by unfold AY;rw[List.findIdx?_eq_none_iff.2 hall],List.find?_eq_none.2 λx hx=>by simp[hall x hx]⟩
theorem TK (a b:ByteArray):(a.toList == b.toList)=(a == b):=by
 by_cases h:a=b
 · subst h;simp
 · have h2:(a == b)=false:=by simpa using h
   rw[h2]
   rw[beq_eq_false_iff_ne]
   intro e
   exact h (by
    cases a with|mk x=>cases b with|mk y =>
    rw[ByteArray.toList_eq,ByteArray.toList_eq]at e
    simp at e
    rw[e])
set_option maxRecDepth 100000 in
set_option maxHeartbeats 1600000 in
theorem Yr (s:aI) (name:ByteArray) (kind:Int) (p q:Nat) (w:World) (tn tk:TypeId) (hp:w.heap[p]? = some (.cells #[.string name] tn (0,0))) (hq:w.heap[q]? = some (.cells #[.int .u8 kind] tk (0,0))) :
 Calls Tryz.prog 118 #[s.val,.pointer (some ⟨p,0,none⟩),.pointer (some ⟨q,0,none⟩)] w (jG w (iO name kind s)):=by
 obtain⟨sn,sk,sl,sa⟩:=s
 have hp0:w.cell? ⟨p,0,none⟩=some (.string name):=by simp[World.cell?,hp]
 have hq0:w.cell? ⟨q,0,none⟩=some (.int .u8 kind):=by simp[World.cell?,hq]
 have hpl:=lt_of_block hp
 have hql:=lt_of_block hq
 have HG:=Lib.hid (show Grow w (w.alloc (.cells #[.string sn,.int .u8 sk,.int .i64 sl,.int .i64 sa] 89))from(Mv.refl _ _).alloc _)
 have hbb:=TK sn name
 clear hp hq
 by_cases h1:(sn == name)=true
 · rw[h1]at hbb
   have HR:=Lib.hid (show iO name kind ⟨sn,sk,sl,sa⟩=(sk == kind)from by simp[iO,h1])
   go_enter Tryz.func118,Tryz.ntmps118
   go_wp2_with fail
   go_ret
   exact⟨ax HR.out.symm,HG.out⟩
 · have h2:(sn == name)=false:=by simpa using h1
   rw[h2]at hbb
   have HR:=Lib.hid (show iO name kind ⟨sn,sk,sl,sa⟩=false from by simp[iO,h2])
   clear h1
   go_enter Tryz.func118,Tryz.ntmps118
   go_wp2_with fail
   go_ret
   exact⟨ax HR.out.symm,HG.out⟩
set_option maxRecDepth 100000 in
set_option maxHeartbeats 1600000 in
theorem XX (sv:Value) (f:fe) (name:ByteArray) (kind:Int) (p q:Nat) (w:World) (tn tk:TypeId) (hf:mE w sv f) (hp:w.heap[p]? = some (.cells #[.string name] tn (0,0))) (hq:w.heap[q]? = some (.cells #[.int .u8 kind] tk (0,0))) :
 Calls Tryz.prog 117 #[sv,.func (.func 118) #[] #[.pointer (some ⟨p,0,none⟩),.pointer (some ⟨q,0,none⟩)]] w λe w'=>e = .returned (.int .i64 (AY f name kind))/\Grow w w':=by
 obtain⟨fa,fc,rfl,hfc,hfl⟩:=hf.row.form
 have HF:=Lib.hid hf
 have HP:=Lib.hid hp
 have HQ:=Lib.hid hq
 clear hf hp hq
 go_enter Tryz.func117,Tryz.ntmps117
 go_wp2_with fail
 go_loopw [8] (λt wr=>∃ j:Nat,t = .int .i64 j/\j<=f.slots.length/\(∀ i (hi:i<f.slots.length),i<j->iO name kind f.slots[i]=false)/\Grow w wr) (λt _=>f.slots.length - (intOf t).toNat)
 case atStart=>exact⟨0,rfl,Nat.zero_le _,λi _ h=>by omega,Mv.refl _ _⟩
 obtain⟨j,rfl,hj,hno,hgr⟩:=hrel
 have jA:=Lib.hid hno
 have aU:=Lib.hid hgr
 clear hno hgr
 by_cases hlt:j<f.slots.length
 · obtain⟨b,off,cap',e,_,hcc⟩:=(HF.out.row.later aU.out).at hlt
   simp only[Value.slice.injEq,true_and]at e
   obtain⟨rfl,rfl⟩:=e
   have c0:=hcc 0 _ rfl
   have c1:=hcc 1 _ rfl
   have c2:=hcc 2 _ rfl
   have c3:=hcc 3 _ rfl
   simp only[Nat.add_zero]at c0
   have hbl:b<wr.heap.size:=World.block_lt_of_cell? wr _ c0
   have HC:=Lib.hid (Yr f.slots[j] name kind p q wr tn tk (aJ HP.out aU.out) (aJ HQ.out aU.out))
   have zN:=Lib.hid (λh=>NK f name kind j hlt h jA.out)
   have HST:=Lib.hid (show(iO name kind f.slots[j]=false->∀ i (hi:i<f.slots.length),i<j+1->iO name kind f.slots[i]=false)from λh i hi hij=>by
    rcases Nat.lt_or_ge i j with h3|h3
    · exact jA.out i hi h3
    · obtain rfl:i=j:=by omega
      exact h)
   generalize iO name kind f.slots[j]=bv at *
   generalize f.slots[j]=x at HC zN c0 c1 c2 c3
   obtain⟨xn,xk,xl,xa⟩:=x
   simp only at c0 c1 c2 c3 HC
   clear hcc
   go_wp2_with fail
   refine HC.out.mono ?_
   rintro e w2 ⟨rfl,hg2⟩
   have HG2:=Lib.hid (Mv.trans aU.out hg2 (λ_ e=>e.elim))
   clear hg2
   cases bv with
   |true =>
    have HR:=Lib.hid (zN.out rfl).1
    go_wp2_with fail
    go_ret
    exact⟨fC HR.out.symm,HG2.out⟩
   |false =>
    have dU:=Lib.hid (HST.out rfl)
    go_wp2_with fail
    go_roundw
    case rel=>exact⟨j+1,by go_num,by omega,dU.out,HG2.out⟩
    case measure=>simp[intOf];omega
 obtain rfl:j=f.slots.length:=by omega
 have HR:=Lib.hid (Nv f name kind (λi hi=>jA.out i hi hi)).1
 go_wp2_with fail
 go_ret
 exact⟨fC HR.out.symm,aU.out⟩
theorem wM {w:World} {X:Nat} {a b c d:Value} {t:TypeId} (h:w.heap[X]? = some (.cells #[a,b,c,d] t (0,0))) (p q r s:Value) :
 ((((w.setCell ⟨X,0,none⟩ p).setCell ⟨X,1,none⟩ q).setCell ⟨X,2,none⟩ r).setCell ⟨X,3,none⟩ s).heap[X]? = some (.cells #[p,q,r,s] t (0,0))/\Mv (λb=>b=X) w ((((w.setCell ⟨X,0,none⟩ p).setCell ⟨X,1,none⟩ q).setCell ⟨X,2,none⟩ r).setCell ⟨X,3,none⟩ s):=by
 constructor
 · have h1:=block_setCell (p:=⟨X,0,none⟩) h rfl p
   have h2:=block_setCell (p:=⟨X,1,none⟩) h1 rfl q
   have h3:=block_setCell (p:=⟨X,2,none⟩) h2 rfl r
   have h4:=block_setCell (p:=⟨X,3,none⟩) h3 rfl s
   simpa using h4
 · exact((((Mv.refl (λb=>b=X) w).setCell (p:=⟨X,0,none⟩) (.inl rfl) _).setCell (p:=⟨X,1,none⟩) (.inl rfl) _).setCell (p:=⟨X,2,none⟩) (.inl rfl) _).setCell (p:=⟨X,3,none⟩) (.inl rfl) _
theorem gN {w:World} {X:Nat} {c:Array Value} {t:TypeId} (h:w.heap[X]? = some (.cells c t (0,0))) (i:Nat):w.frozen? ⟨X,i,none⟩=false:=by simp[World.frozen?,h]
set_option maxRecDepth 100000 in
set_option maxHeartbeats 1600000 in
theorem rW (sv:Value) (f:fe) (name:ByteArray) (kind:Int) (w:World) (hf:mE w sv f) :
 Calls Tryz.prog 79 #[.agg #[sv,.int .i64 f.cells,.int .i64 f.stacks],.string name,.int .u8 kind] w λe w'=>e = .returned (.tuple #[((aD f name kind).getD noSlot).val,.bool (aD f name kind).isSome])/\Grow w w':=by
 obtain⟨fa,fc,rfl,hfc,hfl⟩:=hf.row.form
 have HF:=Lib.hid hf
 clear hf
 have hg1:Grow w ((((w.alloc (.cells #[.slice fa f.slots.length fc,.int .i64 f.cells,.int .i64 f.stacks] 33)).alloc (.cells #[.string name] 9)).alloc (.cells #[.int .u8 kind] 5)).alloc (.cells #[.string ⟨#[]⟩,.int .u8 0,.int .i64 0,.int .i64 0] 89)):=((((Mv.refl _ _).alloc _).alloc _).alloc _).alloc _
 have hB:=dG (dG (dG (heap_alloc_new w (.cells #[.slice fa f.slots.length fc,.int .i64 f.cells,.int .i64 f.stacks] 33)) (.cells #[.string name] 9)) (.cells #[.int .u8 kind] 5)) (.cells #[.string ⟨#[]⟩,.int .u8 0,.int .i64 0,.int .i64 0] 89)
 have hN:=dG (dG (heap_alloc_new (w.alloc (.cells #[.slice fa f.slots.length fc,.int .i64 f.cells,.int .i64 f.stacks] 33)) (.cells #[.string name] 9)) (.cells #[.int .u8 kind] 5)) (.cells #[.string ⟨#[]⟩,.int .u8 0,.int .i64 0,.int .i64 0] 89)
 have hK:=dG (heap_alloc_new ((w.alloc (.cells #[.slice fa f.slots.length fc,.int .i64 f.cells,.int .i64 f.stacks] 33)).alloc (.cells #[.string name] 9)) (.cells #[.int .u8 kind] 5)) (.cells #[.string ⟨#[]⟩,.int .u8 0,.int .i64 0,.int .i64 0] 89)
 have hZ:=heap_alloc_new (((w.alloc (.cells #[.slice fa f.slots.length fc,.int .i64 f.cells,.int .i64 f.stacks] 33)).alloc (.cells #[.string name] 9)).alloc (.cells #[.int .u8 kind] 5)) (.cells #[.string ⟨#[]⟩,.int .u8 0,.int .i64 0,.int .i64 0] 89)
 simp only[World.size_alloc]at hN hK hZ
 have aP:=Lib.hid hg1
 have HB:=Lib.hid hB
 have HZ:=Lib.hid hZ
 have zO:=Lib.hid (XX (.slice fa f.slots.length fc) f name kind (w.heap.size+1) (w.heap.size+1+1) _ _ _ (HF.out.later hg1) hN hK)
 clear hg1 hB hN hK hZ
 go_enter Tryz.func79,Tryz.ntmps79
 go_wp2_with fail
 generalize (((w.alloc (.cells #[.slice fa f.slots.length fc,.int .i64 f.cells,.int .i64 f.stacks] 33)).alloc (.cells #[.string name] 9)).alloc (.cells #[.int .u8 kind] 5)).alloc (.cells #[.string ⟨#[]⟩,.int .u8 0,.int .i64 0,.int .i64 0] 89)=w1 at *
 refine zO.out.mono ?_
 rintro e w2 ⟨rfl,hg2⟩
 have hB2:=aJ HB.out hg2
 have hZ2:=aJ HZ.out hg2
 have HG2:=Lib.hid (Mv.trans aP.out hg2 (λ_ e=>e.elim))
 have HZ2:=Lib.hid hZ2
 have b0:w2.cell? ⟨w.heap.size,0,none⟩=some (.slice fa f.slots.length fc):=by simp[World.cell?,hB2]
 have hlb:=lt_of_block hB2
 have hlz:=lt_of_block hZ2
 obtain⟨z0,z1,z2,z3⟩:=gu hZ2
 have zt:=gN hZ2
 clear hg2 hB2 hZ2 zO
 by_cases hex:∃ j,∃ hj:j<f.slots.length,iO name kind f.slots[j]=true/\∀ i (hi:i<f.slots.length),i<j->iO name kind f.slots[i]=false
 · obtain⟨j,hj,hhit,hno⟩:=hex
   obtain⟨hix,hfs⟩:=NK f name kind j hj hhit hno
   have zI:=Lib.hid hfs
   rw[hix]
   obtain⟨b,off,cap',e,_,hcc⟩:=(HF.out.row.later HG2.out).at hj
   simp only[Value.slice.injEq,true_and]at e
   obtain⟨rfl,rfl⟩:=e
   have c0:=hcc 0 _ rfl
   have c1:=hcc 1 _ rfl
   have c2:=hcc 2 _ rfl
   have c3:=hcc 3 _ rfl
   simp only[Nat.add_zero]at c0
   have hbl:b<w2.heap.size:=World.block_lt_of_cell? w2 _ c0
   have hj0:¬ ((j:Int)<0):=by omega
   generalize f.slots[j]=x at zI c0 c1 c2 c3
   obtain⟨xn,xk,xl,xa⟩:=x
   simp only at c0 c1 c2 c3
   obtain⟨hY,hmv⟩:=wM HZ2.out (.string xn) (.int .u8 xk) (.int .i64 xl) (.int .i64 xa)
   have HY:=Lib.hid hY
   have fP:=Lib.hid hmv
   clear hcc hhit hno hix hfs hY hmv
   go_wp2_with fail
   obtain⟨k0,k1,k2,k3⟩:=gu HY.out
   refine bodyPost_ret (v := .tuple #[.agg #[.string xn,.int .u8 xk,.int .i64 xl,.int .i64 xa],.bool true]) ?_ rfl ⟨by rw[zI.out];rfl,HG2.out.trans fP.out (λx e => .inr (by omega))⟩
   simp[results,Tryz.results79,go_sem,k0,k1,k2,k3]
 · have hno:∀ i (hi:i<f.slots.length),iO name kind f.slots[i]=false:=by
    intro i
    induction i using Nat.strongRecOn with
    |ind i ih =>
     intro hi
     cases hb:iO name kind f.slots[i]with
     |false=>rfl
     |true=>exact absurd ⟨i,hi,hb,λk hk hki=>ih k hki hk⟩ hex
   obtain⟨hix,hfs⟩:=Nv f name kind hno
   have zI:=Lib.hid hfs
   rw[hix]
   obtain⟨hY,hmv⟩:=wM HZ2.out (.string ⟨#[]⟩) (.int .u8 0) (.int .i64 0) (.int .i64 0)
   have HY:=Lib.hid hY
   have fP:=Lib.hid hmv
   clear hno hix hfs hex hY hmv
   go_wp2_with fail
   obtain⟨k0,k1,k2,k3⟩:=gu HY.out
   refine bodyPost_ret (v := .tuple #[.agg #[.string ⟨#[]⟩,.int .u8 0,.int .i64 0,.int .i64 0],.bool false]) ?_ rfl ⟨by rw[zI.out];rfl,HG2.out.trans fP.out (λx e => .inr (by omega))⟩
   simp[results,Tryz.results79,go_sem,k0,k1,k2,k3]
attribute [local go_sem ↓] qH
structure Tk where
 kind:Int
 text:ByteArray
 pos:Int
def Tk.cells (t:Tk):List Value:=[.int .u8 t.kind,.string t.text,.int .i64 t.pos]
theorem Eo (t:Tk):t.cells.length=3:=rfl
def lX:Nat->ByteArray->Nat->Option (List Tk)
 |0,s,pos=>if s.size<=pos then some []else none
 |f+1,s,pos=>if s.size<=pos then some []else
  if 0<(nS (s.extract pos s.size)).2/\(pos:Int)+(nS (s.extract pos s.size)).2<=s.size then
   match lX f s (pos+(nS (s.extract pos s.size)).2.toNat)with
   |none=>none
   |some r=>some (⟨(nS (s.extract pos s.size)).1,s.extract pos (pos+(nS (s.extract pos s.size)).2.toNat),pos⟩ :: r)
  else none
theorem Ov {f:Nat} {s:ByteArray} {pos:Nat} {T:List Tk} (h:lX f s pos=some T) (hp:s.size<=pos):T=[]:=by
 cases f <;> simp[lX,hp]at h <;> exact h
theorem Y6 {f:Nat} {s:ByteArray} {pos:Nat} {T:List Tk} (h:lX f s pos=some T) (hp:pos<s.size):∃ (k:Int) (n:Nat) (r:List Tk) (g:Nat),nS (s.extract pos s.size)=(k,(n:Int))/\0<n/\pos+n<=s.size/\lX g s (pos+n)=some r/\T=⟨k,s.extract pos (pos+n),pos⟩ :: r:=by
 cases f with
 |zero=>simp[lX]at h;omega
 |succ g =>
  rw[lX,if_neg (by omega)]at h
  generalize hF:nS (s.extract pos s.size)=kn at h
  obtain⟨k,n⟩:=kn
  simp only at h
  by_cases hc:0<n/\(pos:Int)+n<=s.size
  · rw[if_pos hc]at h
    generalize hr:lX g s (pos+n.toNat)=r at h
    cases r with
    |none=>simp at h
    |some r =>
     simp only[Option.some.injEq]at h
     exact⟨k,n.toNat,r,g,by rw[show((n.toNat:Nat):Int)=n from by omega],by omega,by omega,hr,h.symm⟩
  · rw[if_neg hc]at h;cases h
theorem Tryz.abG:(Tryz.prog.info? 169).map (λi=>(i.zero,i.size,i.bytes))=some (some (.agg #[.int .u8 0,.string ⟨#[]⟩,.int .i64 0]),3,32):=by kernel_rfl
theorem Tryz.Rm:Elem Tryz.prog 117 169 3 32:=Elem.of Tryz.underlying117 Tryz.abG rfl (by decide) (by decide)
theorem aaN {f:Nat} {s:ByteArray} : ∀ {pos:Nat} {T:List Tk},lX f s pos=some T->T.length<=s.size - pos:=by
 induction f with
 |zero=>intro pos T h;simp[lX]at h;rw[h.2];simp
 |succ f ih =>
  intro pos T h
  by_cases hp:pos<s.size
  · rw[lX,if_neg (by omega)]at h
    split at h
    · rename_i hc
      split at h
      · cases h
      · rename_i r hr
        have:=ih hr
        simp only[Option.some.injEq]at h
        rw[← h,List.length_cons]
        omega
    · cases h
  · rw[Ov h (by omega)];simp
theorem jJ {a b c:World} (h:Grow a b) (k:Grow b c):Grow a c:=Mv.trans h k (λ_ e=>e.elim)
theorem Pk {wb w w':World} {O:Nat->Prop} (h:Grow wb w) (hm:Mv O w w') (hO:∀ b,O b->wb.heap.size<=b):Grow wb w':=h.trans hm (λb hb => .inr (hO b hb))
theorem Ic {α:Type} {f:α->List Value} {n e base:Nat} {w:World} {v:Value} {l:List α} (h:w.ownsRow base e n v l.length (flat f l)):∀ b,v.ownBlock=some b->base<=b/\∃ cs z,w.heap[b]? = some (.cells cs e z):=by
 intro b hb
 rcases h.2 with⟨rfl,_⟩|⟨g',cap,cur,rfl,hg',hg,_⟩
 · simp[Value.ownBlock]at hb
 · simp[Value.ownBlock]at hb
   subst hb
   exact⟨hg',cur,_,hg⟩
set_option maxRecDepth 100000 in
set_option maxHeartbeats 6400000 in
theorem agq (s:ByteArray) (T:List Tk) (f:Nat) (w:World) (hs:s.size<=65536) (hT:lX f s 0=some T):Calls Tryz.prog 91 #[.string s] w λe w'=>∃ a c,e = .returned (.tuple #[.slice a T.length c,.int .i64 0,.int .i64 0])/\w'.ownsRow w.heap.size 169 3 (.slice a T.length c) T.length (flat Tk.cells T)/\Grow w w':=by
 have uN:=Lib.hid (aaN hT)
 have HT:=Lib.hid hT
 clear hT
 go_enter Tryz.func91,Tryz.ntmps91
 go_wp2_with fail
 go_loopw [5,6] (λtv pv wr=>∃ (ts rest:List Tk) (pos g:Nat) (a:Option Addr) (c:Nat),tv = .slice a ts.length c/\pv = .int .i64 pos/\pos<=s.size/\lX g s pos=some rest/\T=ts ++ rest/\wr.ownsRow w.heap.size 169 3 (.slice a ts.length c) ts.length (flat Tk.cells ts)/\Grow w wr) (λ_ pv _=>s.size - (intOf pv).toNat)
 case atStart=>exact⟨[],T,0,f,none,0,rfl,rfl,Nat.zero_le _,HT.out,rfl,World.ownsRow_nil _ _ _ _,Mv.refl _ _⟩
 obtain⟨ts,rest,pos,g,a,c,rfl,rfl,hpos,hlex,hTe,hrow,hg⟩:=hrel
 have xy:=Lib.hid hTe
 have iE:=Lib.hid hrow
 have HG:=Lib.hid hg
 have V3:=Lib.hid hlex
 clear hTe hrow hg hlex HT
 by_cases hlt:pos<s.size
 · have hpp:(pos:Int)<(s.size:Nat):=by omega
   obtain⟨k,n,r,g',hF,hn,hle,hr,he⟩:=Y6 V3.out hlt
   have Ml:=Lib.hid (Y5 (s.extract pos s.size) wr (by rw[ByteArray.size_extract];omega) (by rw[ByteArray.size_extract];omega))
   rw[hF]at Ml
   have hll:ts.length<=65536:=by have h1:=xy.out;have h2:=uN.out;rw[h1,List.length_append]at h2;omega
   have hg1:Grow wr (wr.alloc (.cells #[.int .u8 k,.string (s.extract pos (pos+n)),.int .i64 pos] 169)):=(Mv.refl _ _).alloc _
   obtain⟨a',c',w2,⟨hok,iI,haw⟩,hr2,hm2,-⟩:=nL Tryz.Rm (f:=Tk.cells) Eo (.slice a ts.length c) (.slice (some ⟨wr.heap.size,0,none⟩) 1 1) ts [⟨k,s.extract pos (pos+n),pos⟩] w.heap.size (wr.alloc (.cells #[.int .u8 k,.string (s.extract pos (pos+n)),.int .i64 pos] 169)) (fQ iE.out hg1 (λ_ _ e=>e)) (aB.gW (f:=Tk.cells) (l:=[⟨k,s.extract pos (pos+n),pos⟩]) Eo (heap_alloc_new wr _) (by simp[flat,Tk.cells]) (Nat.le_of_ble_eq_true rfl)) (λy hy u hu=>by simp at hy;subst hy;simp[Tk.cells]at hu;rcases hu with rfl|rfl|rfl <;> rfl) (jJ HG.out hg1).size (by simp;omega)
   have ow:=Lib.hid (show w2.ownsRow w.heap.size 169 3 (.slice a' (ts.length+1) c') (ts ++ [(⟨k,s.extract pos (pos+n),pos⟩:Tk)]).length (flat Tk.cells (ts ++ [⟨k,s.extract pos (pos+n),pos⟩]))from hr2)
   have Cw:=Lib.hid (Pk (jJ HG.out hg1) hm2 (λb e=>(Ic iE.out b e).1))
   have HRR:=Lib.hid hr
   have HTN:=Lib.hid (show T=(ts ++ [⟨k,s.extract pos (pos+n),pos⟩]) ++ r from by rw[xy.out,he];simp)
   have hnn:0<(n:Int):=by omega
   have hle2:(pos:Int)+n<=(s.size:Nat):=by omega
   clear hr2 hm2 hg1 hr he hF
   go_wp2_with fail
   refine Ml.out.mono ?_
   clear Ml
   rintro e w' ⟨rfl,rfl⟩
   go_wp2_with fail
   go_roundw
   case rel=>exact⟨ts ++ [⟨k,s.extract pos (pos+n),pos⟩],r,pos+n,g',a',c',by simp,by go_num,by omega,HRR.out,HTN.out,by simpa using ow.out,Cw.out⟩
   case measure=>(simp[intOf] <;> omega)
 · have hlt':¬ ((pos:Int)<(s.size:Nat)):=by omega
   have hT':T=ts:=by rw[xy.out,Ov V3.out (by omega)];simp
   subst hT'
   clear xy
   go_wp2_with fail
   exact bodyPost_ret (v := .tuple #[.slice a T.length c,.int .i64 0,.int .i64 0]) (by simp[results,Tryz.results91,go_sem]) rfl ⟨a,c,rfl,iE.out,HG.out⟩
def jb (t:Tk):Bool:=t.kind != 4 && t.kind != 5
set_option maxRecDepth 100000 in
set_option maxHeartbeats 6400000 in
theorem agh (v:Value) (T:List Tk) (w:World) (h:aB 3 Tk.cells w v T) (hl:T.length<=65536):Calls Tryz.prog 92 #[v] w λe w'=>∃ a c,e = .returned (.slice a (T.filter jb).length c)/\w'.ownsRow w.heap.size 169 3 (.slice a (T.filter jb).length c) (T.filter jb).length (flat Tk.cells (T.filter jb))/\Grow w w':=by
 obtain⟨va,vc,rfl,-,-⟩:=h.form
 have HV:=Lib.hid h
 clear h
 go_enter Tryz.func92,Tryz.ntmps92
 go_wp2_with fail
 go_loopw [3,8] (λlv t wr=>∃ (k:Nat) (a:Option Addr) (c:Nat),t = .int .i64 k/\k<=T.length/\Grow w wr/\lv = .slice a ((T.take k).filter jb).length c/\wr.ownsRow w.heap.size 169 3 (.slice a ((T.take k).filter jb).length c) ((T.take k).filter jb).length (flat Tk.cells ((T.take k).filter jb))) (λ_ t _=>T.length - (intOf t).toNat)
 case atStart=>exact⟨0,none,0,rfl,Nat.zero_le _,Mv.refl _ _,rfl,World.ownsRow_nil _ _ _ _⟩
 obtain⟨k,a,c,rfl,hk,hg,rfl,hrow⟩:=hrel
 have HG:=Lib.hid hg
 have HR:=Lib.hid hrow
 clear hrow hg
 by_cases hlt:k<T.length
 · have hkk:(k:Int)<(T.length:Nat):=by omega
   obtain⟨b,off,cap',e,_,hcc⟩:=(HV.out.later HG.out).at hlt
   simp only[Value.slice.injEq,true_and]at e
   obtain⟨rfl,rfl⟩:=e
   have c0:=hcc 0 _ rfl
   have c1:=hcc 1 _ rfl
   have c2:=hcc 2 _ rfl
   simp only[Nat.add_zero]at c0 c1 c2
   have hbx:=World.block_lt_of_cell? wr _ c0
   have jM:=Lib.hid (show(T.take (k+1)).filter jb=(T.take k).filter jb ++ (if jb T[k]=true then[T[k]]else[])from by
    rw[List.take_succ_eq_append_getElem hlt,List.filter_append]
    congr 1
    simp only[List.filter_cons,List.filter_nil])
   have HLEN:=Lib.hid (show((T.take k).filter jb).length<=65536 from Nat.le_trans (List.length_filter_le _ _) (by simp;omega))
   clear hcc
   generalize (T.take k).filter jb=ts at *
   generalize T[k]=tk at *
   obtain⟨kK,oH,oI⟩:=tk
   have hg1:Grow wr (wr.alloc (.cells #[.int .u8 kK,.string oH,.int .i64 oI] 169)):=(Mv.refl _ _).alloc _
   have HB1:=Lib.hid (heap_alloc_new wr (.cells #[.int .u8 kK,.string oH,.int .i64 oI] 169))
   have HR1:=Lib.hid (fQ HR.out hg1 (λ_ _ e=>e))
   have aP:=Lib.hid (jJ HG.out hg1)
   clear hg1 HR HG
   go_upto_region 5 with fail
   generalize wr.alloc (.cells #[.int .u8 kK,.string oH,.int .i64 oI] 169)=w1 at *
   have hll:=HLEN.out
   have hg2:Grow w1 (w1.alloc (.cells #[.int .u8 kK,.string oH,.int .i64 oI] 169)):=(Mv.refl _ _).alloc _
   obtain⟨a',c',w2,⟨hok,iI,haw⟩,hr2,hm2,-⟩:=nL Tryz.Rm (f:=Tk.cells) Eo (.slice a ts.length c) (.slice (some ⟨w1.heap.size,0,none⟩) 1 1) ts [⟨kK,oH,oI⟩] w.heap.size (w1.alloc (.cells #[.int .u8 kK,.string oH,.int .i64 oI] 169)) (fQ HR1.out hg2 (λ_ _ e=>e)) (aB.gW (f:=Tk.cells) (l:=[⟨kK,oH,oI⟩]) Eo (heap_alloc_new w1 _) (by simp[flat,Tk.cells]) (Nat.le_of_ble_eq_true rfl)) (λy hy u hu=>by simp at hy;subst hy;simp[Tk.cells]at hu;rcases hu with rfl|rfl|rfl <;> rfl) (jJ aP.out hg2).size (by simp;omega)
   have ow:=Lib.hid (show w2.ownsRow w.heap.size 169 3 (.slice a' (ts.length+1) c') (ts ++ [(⟨kK,oH,oI⟩:Tk)]).length (flat Tk.cells (ts ++ [⟨kK,oH,oI⟩]))from hr2)
   have Cw:=Lib.hid (Pk (jJ aP.out hg2) hm2 (λb e=>(Ic HR1.out b e).1))
   have hbl:=lt_of_block HB1.out
   have hc0:w1.cell? ⟨wr.heap.size,0,none⟩=some (.int .u8 kK):=by simp[World.cell?,HB1.out]
   have hc1:w1.cell? ⟨wr.heap.size,1,none⟩=some (.string oH):=by simp[World.cell?,HB1.out]
   have hc2:w1.cell? ⟨wr.heap.size,2,none⟩=some (.int .i64 oI):=by simp[World.cell?,HB1.out]
   clear hr2 hm2 hg2
   by_cases h4:kK=4
   · subst h4
     have HT2:=Lib.hid (show List.filter jb (List.take (k+1) T)=ts from by rw[jM.out,if_neg (by simp[jb])];simp)
     clear hok iI haw jM
     go_wp2_with fail
     go_roundw
     case rel=>exact⟨k+1,a,c,by go_num,by omega,aP.out,by rw[HT2.out],by rw[HT2.out];exact HR1.out⟩
     case measure=>(simp[intOf] <;> omega)
   by_cases h5:kK=5
   · subst h5
     have HT2:=Lib.hid (show List.filter jb (List.take (k+1) T)=ts from by rw[jM.out,if_neg (by simp[jb])];simp)
     clear hok iI haw jM
     go_wp2_with fail
     go_roundw
     case rel=>exact⟨k+1,a,c,by go_num,by omega,aP.out,by rw[HT2.out],by rw[HT2.out];exact HR1.out⟩
     case measure=>(simp[intOf] <;> omega)
   · have HT2:=Lib.hid (show List.filter jb (List.take (k+1) T)=ts ++ [⟨kK,oH,oI⟩]from by rw[jM.out,if_pos (by simp[jb,h4,h5])])
     clear jM
     have e4:(kK != 4)=true:=by simpa using h4
     have e5:(kK != 5)=true:=by simpa using h5
     go_wp2_with fail
     go_roundw
     case rel=>exact⟨k+1,a',c',by go_num,by omega,Cw.out,by rw[HT2.out];simp,by rw[HT2.out];simpa using ow.out⟩
     case measure=>(simp[intOf] <;> omega)
 · obtain rfl:k=T.length:=by omega
   have hlt':¬ ((T.length:Int)<(T.length:Nat)):=by omega
   have HF:=Lib.hid HR.out
   rw[List.take_length]at HF ⊢
   go_wp2_with fail
   go_ret
   exact⟨a,c,rfl,HF.out,HG.out⟩
end Go.Proofs.YtadecgbblajifaaGreatDoor
