import Derived.Test.YtnobahchcongnaaGreatF07
set_option linter.unusedSimpArgs false
set_option linter.unusedVariables false
set_option maxRecDepth 100000
set_option maxHeartbeats 25600000
namespace Go.Proofs.YtnobahchcongnaaGreat
section
open Go.RowKit Go.Instr
structure az where
 slots:List dL
 cells:Int
 stacks:Int
abbrev dL.val (s:dL):Value := .agg #[.string s.name,.int .u8 s.kind,.int .i64 s.len,.int .i64 s.at']
structure fV (w:World) (sv:Value) (f:az):Prop where
 row:ax 4 dL.cells w sv f.slots
theorem fV.later {w w':World} {sv:Value} {f:az} (h:fV w sv f) (hm:Grow w w'):fV w' sv f:=⟨h.row.later hm⟩
def je (name:ByteArray) (kind:Int) (s:dL):Bool:=s.name == name && s.kind == kind
def au (f:az) (name:ByteArray) (kind:Int):Option dL:=f.slots.find? (je name kind)
def noSlot:dL:=⟨⟨#[]⟩,0,0,0⟩
def Ce (f:az) (name:ByteArray) (kind:Int):Int:=match f.slots.findIdx? (je name kind)with
 |some i=>i
 |none => -1
theorem Og (f:az) (name:ByteArray) (kind:Int) (j:Nat) (hj:j<f.slots.length) (h:je name kind f.slots[j]=true) (hn:∀ i (hi:i<f.slots.length),i<j->je name kind f.slots[i]=false):Ce f name kind=j/\au f name kind=some f.slots[j]:=by
 have h1:f.slots.findIdx? (je name kind)=some j:=by
  rw[List.findIdx?_eq_some_iff_getElem];exact⟨hj,h,λi hi=>by simp[hn i (by omega) hi]⟩
 refine⟨by unfold Ce;rw[h1],?_⟩;unfold au;rw[List.find?_eq_some_iff_getElem];exact⟨h,j,hj,rfl,λi hi=>by simp[hn i (by omega) hi]⟩
theorem NJ (f:az) (name:ByteArray) (kind:Int) (hn:∀ i (hi:i<f.slots.length),je name kind f.slots[i]=false):Ce f name kind = -1/\au f name kind=none:=by
 have hall:∀ x∈f.slots,je name kind x=false:=λx hx=>by
  obtain⟨i,hi,rfl⟩:=List.mem_iff_getElem.1 hx;exact hn i hi
 refine⟨by unfold Ce;rw[List.findIdx?_eq_none_iff.2 hall],List.find?_eq_none.2 λx hx=>by simp[hall x hx]⟩
theorem y7 (a b:ByteArray):(a.toList == b.toList)=(a == b):=by
 by_cases h:a=b
 · subst h;simp
 · have h2:(a == b)=false:=by simpa using h
   rw[h2];rw[beq_eq_false_iff_ne];intro e;exact h (by
    cases a with|mk x=>cases b with|mk y =>
    rw[ByteArray.toList_eq,ByteArray.toList_eq]at e;simp at e;rw[e])
theorem WS (s:dL) (name:ByteArray) (kind:Int) (p q:Nat) (w:World) (tn tk:TypeId) (hp:w.heap[p]? = some (.cells #[.string name] tn (0,0))) (hq:w.heap[q]? = some (.cells #[.int .u8 kind] tk (0,0))) :
 Calls Tryz.prog 56 #[s.val,.pointer (some ⟨p,0,none⟩),.pointer (some ⟨q,0,none⟩)] w (iK w (je name kind s)):=by
 obtain⟨sn,sk,sl,sa⟩:=s;have hp0:w.cell? ⟨p,0,none⟩=some (.string name):=by simp[World.cell?,hp]
 have hq0:w.cell? ⟨q,0,none⟩=some (.int .u8 kind):=by simp[World.cell?,hq]
 have hpl:=lt_of_block hp;have pK:=lt_of_block hq;have HG:=ł (show Grow w (w.alloc (.cells #[.string sn,.int .u8 sk,.int .i64 sl,.int .i64 sa] 81))from(Mv.refl _ _).alloc _);have hbb:=y7 sn name;clear hp hq;by_cases h1:(sn == name)=true
 · rw[h1]at hbb;have HR:=ł (show je name kind ⟨sn,sk,sl,sa⟩=(sk == kind)from by simp[je,h1])
   go_enter Tryz.func56,Tryz.ntmps56
   go_wp2_with fail;go_ret;exact⟨aL HR.out.symm,HG.out⟩
 · have h2:(sn == name)=false:=by simpa using h1
   rw[h2]at hbb;have HR:=ł (show je name kind ⟨sn,sk,sl,sa⟩=false from by simp[je,h2]);clear h1
   go_enter Tryz.func56,Tryz.ntmps56
   go_wp2_with fail;go_ret;exact⟨aL HR.out.symm,HG.out⟩
theorem Wo (sv:Value) (f:az) (name:ByteArray) (kind:Int) (p q:Nat) (w:World) (tn tk:TypeId) (hf:fV w sv f) (hp:w.heap[p]? = some (.cells #[.string name] tn (0,0))) (hq:w.heap[q]? = some (.cells #[.int .u8 kind] tk (0,0))) :
 Calls Tryz.prog 55 #[sv,.func (.func 56) #[] #[.pointer (some ⟨p,0,none⟩),.pointer (some ⟨q,0,none⟩)]] w λe w'=>e = .returned (.int .i64 (Ce f name kind))/\Grow w w':=by
 obtain⟨fa,fc,rfl,hfc,hfl⟩:=hf.row.form;have HF:=ł hf;have HP:=ł hp;have HQ:=ł hq;clear hf hp hq
 go_enter Tryz.func55,Tryz.ntmps55
 go_wp2_with fail
 go_loopw [8] (λt wr=>∃ j:Nat,t = .int .i64 j/\j<=f.slots.length/\(∀ i (hi:i<f.slots.length),i<j->je name kind f.slots[i]=false)/\Grow w wr) (λt _=>f.slots.length - (intOf t).toNat)
 case atStart=>exact⟨0,rfl,Nat.zero_le _,λi _ h=>by omega,Mv.refl _ _⟩
 obtain⟨j,rfl,hj,hno,hgr⟩:=hrel;have uX:=ł hno;have dh:=ł hgr;clear hno hgr;by_cases hlt:j<f.slots.length
 · obtain⟨b,off,cap',e,_,hcc⟩:=(HF.out.row.later dh.out).at hlt;simp only[Value.slice.injEq,true_and]at e;obtain⟨rfl,rfl⟩:=e;have c0:=hcc 0 _ rfl;have c1:=hcc 1 _ rfl;have c2:=hcc 2 _ rfl;have c3:=hcc 3 _ rfl;simp only[Nat.add_zero]at c0;have hbl:b<wr.heap.size:=World.block_lt_of_cell? wr _ c0;have HC:=ł (WS f.slots[j] name kind p q wr tn tk (ai HP.out dh.out) (ai HQ.out dh.out));have Bh:=ł (λh=>Og f name kind j hlt h uX.out);have HST:=ł (show(je name kind f.slots[j]=false->∀ i (hi:i<f.slots.length),i<j+1->je name kind f.slots[i]=false)from λh i hi hij=>by
    rcases Nat.lt_or_ge i j with h3|h3
    · exact uX.out i hi h3
    · obtain rfl:i=j:=by omega
      exact h)
   generalize je name kind f.slots[j]=bv at *;generalize f.slots[j]=x at HC Bh c0 c1 c2 c3;obtain⟨xn,xk,xl,xa⟩:=x;simp only at c0 c1 c2 c3 HC;clear hcc;go_wp2_with fail;refine HC.out.mono ?_;rintro e w2 ⟨rfl,hg2⟩;have HG2:=ł (Mv.trans dh.out hg2 (λ_ e=>e.elim));clear hg2;cases bv with
   |true =>
    have HR:=ł (Bh.out rfl).1;go_wp2_with fail;go_ret;exact⟨cB HR.out.symm,HG2.out⟩
   |false =>
    have aY:=ł (HST.out rfl);go_wp2_with fail
    go_roundw
    case rel=>exact⟨j+1,by go_num,by omega,aY.out,HG2.out⟩
    case measure=>simp[intOf];omega
 obtain rfl:j=f.slots.length:=by omega
 have HR:=ł (NJ f name kind (λi hi=>uX.out i hi hi)).1;go_wp2_with fail;go_ret;exact⟨cB HR.out.symm,dh.out⟩
theorem nW {w:World} {X:Nat} {a b c d:Value} {t:TypeId} (h:w.heap[X]? = some (.cells #[a,b,c,d] t (0,0))) (p q r s:Value) :
 ((((w.setCell ⟨X,0,none⟩ p).setCell ⟨X,1,none⟩ q).setCell ⟨X,2,none⟩ r).setCell ⟨X,3,none⟩ s).heap[X]? = some (.cells #[p,q,r,s] t (0,0))/\Mv (λb=>b=X) w ((((w.setCell ⟨X,0,none⟩ p).setCell ⟨X,1,none⟩ q).setCell ⟨X,2,none⟩ r).setCell ⟨X,3,none⟩ s):=by
 constructor
 · have h1:=block_setCell (p:=⟨X,0,none⟩) h rfl p;have h2:=block_setCell (p:=⟨X,1,none⟩) h1 rfl q;have h3:=block_setCell (p:=⟨X,2,none⟩) h2 rfl r;have h4:=block_setCell (p:=⟨X,3,none⟩) h3 rfl s
   simpa using h4
 · exact((((Mv.refl (λb=>b=X) w).setCell (p:=⟨X,0,none⟩) (.inl rfl) _).setCell (p:=⟨X,1,none⟩) (.inl rfl) _).setCell (p:=⟨X,2,none⟩) (.inl rfl) _).setCell (p:=⟨X,3,none⟩) (.inl rfl) _
theorem aD {w:World} {X:Nat} {c:Array Value} {t:TypeId} (h:w.heap[X]? = some (.cells c t (0,0))) (i:Nat):w.frozen? ⟨X,i,none⟩=false:=by simp[World.frozen?,h]
theorem oV (sv:Value) (f:az) (name:ByteArray) (kind:Int) (w:World) (hf:fV w sv f) :
 Calls Tryz.prog 28 #[.agg #[sv,.int .i64 f.cells,.int .i64 f.stacks],.string name,.int .u8 kind] w λe w'=>e = .returned (.tuple #[((au f name kind).getD noSlot).val,.bool (au f name kind).isSome])/\Grow w w':=by
 obtain⟨fa,fc,rfl,hfc,hfl⟩:=hf.row.form;have HF:=ł hf;clear hf;have hg1:Grow w ((((w.alloc (.cells #[.slice fa f.slots.length fc,.int .i64 f.cells,.int .i64 f.stacks] 38)).alloc (.cells #[.string name] 9)).alloc (.cells #[.int .u8 kind] 5)).alloc (.cells #[.string ⟨#[]⟩,.int .u8 0,.int .i64 0,.int .i64 0] 81)):=((((Mv.refl _ _).alloc _).alloc _).alloc _).alloc _;have hB:=aO (aO (aO (heap_alloc_new w (.cells #[.slice fa f.slots.length fc,.int .i64 f.cells,.int .i64 f.stacks] 38)) (.cells #[.string name] 9)) (.cells #[.int .u8 kind] 5)) (.cells #[.string ⟨#[]⟩,.int .u8 0,.int .i64 0,.int .i64 0] 81);have hN:=aO (aO (heap_alloc_new (w.alloc (.cells #[.slice fa f.slots.length fc,.int .i64 f.cells,.int .i64 f.stacks] 38)) (.cells #[.string name] 9)) (.cells #[.int .u8 kind] 5)) (.cells #[.string ⟨#[]⟩,.int .u8 0,.int .i64 0,.int .i64 0] 81);have hK:=aO (heap_alloc_new ((w.alloc (.cells #[.slice fa f.slots.length fc,.int .i64 f.cells,.int .i64 f.stacks] 38)).alloc (.cells #[.string name] 9)) (.cells #[.int .u8 kind] 5)) (.cells #[.string ⟨#[]⟩,.int .u8 0,.int .i64 0,.int .i64 0] 81);have hZ:=heap_alloc_new (((w.alloc (.cells #[.slice fa f.slots.length fc,.int .i64 f.cells,.int .i64 f.stacks] 38)).alloc (.cells #[.string name] 9)).alloc (.cells #[.int .u8 kind] 5)) (.cells #[.string ⟨#[]⟩,.int .u8 0,.int .i64 0,.int .i64 0] 81);simp only[World.size_alloc]at hN hK hZ;have bg:=ł hg1;have HB:=ł hB;have HZ:=ł hZ;have ou:=ł (Wo (.slice fa f.slots.length fc) f name kind (w.heap.size+1) (w.heap.size+1+1) _ _ _ (HF.out.later hg1) hN hK);clear hg1 hB hN hK hZ
 go_enter Tryz.func28,Tryz.ntmps28
 go_wp2_with fail;generalize (((w.alloc (.cells #[.slice fa f.slots.length fc,.int .i64 f.cells,.int .i64 f.stacks] 38)).alloc (.cells #[.string name] 9)).alloc (.cells #[.int .u8 kind] 5)).alloc (.cells #[.string ⟨#[]⟩,.int .u8 0,.int .i64 0,.int .i64 0] 81)=w1 at *;refine ou.out.mono ?_;rintro e w2 ⟨rfl,hg2⟩;have hB2:=ai HB.out hg2;have hZ2:=ai HZ.out hg2;have HG2:=ł (Mv.trans bg.out hg2 (λ_ e=>e.elim));have HZ2:=ł hZ2;have b0:w2.cell? ⟨w.heap.size,0,none⟩=some (.slice fa f.slots.length fc):=by simp[World.cell?,hB2]
 have hlb:=lt_of_block hB2;have hlz:=lt_of_block hZ2;obtain⟨z0,z1,z2,z3⟩:=dF hZ2;have zt:=aD hZ2;clear hg2 hB2 hZ2 ou;by_cases hex:∃ j,∃ hj:j<f.slots.length,je name kind f.slots[j]=true/\∀ i (hi:i<f.slots.length),i<j->je name kind f.slots[i]=false
 · obtain⟨j,hj,hhit,hno⟩:=hex;obtain⟨hix,hfs⟩:=Og f name kind j hj hhit hno;have zK:=ł hfs;rw[hix];obtain⟨b,off,cap',e,_,hcc⟩:=(HF.out.row.later HG2.out).at hj;simp only[Value.slice.injEq,true_and]at e;obtain⟨rfl,rfl⟩:=e;have c0:=hcc 0 _ rfl;have c1:=hcc 1 _ rfl;have c2:=hcc 2 _ rfl;have c3:=hcc 3 _ rfl;simp only[Nat.add_zero]at c0;have hbl:b<w2.heap.size:=World.block_lt_of_cell? w2 _ c0;have hj0:¬ ((j:Int)<0):=by omega
   generalize f.slots[j]=x at zK c0 c1 c2 c3;obtain⟨xn,xk,xl,xa⟩:=x;simp only at c0 c1 c2 c3;obtain⟨hY,hmv⟩:=nW HZ2.out (.string xn) (.int .u8 xk) (.int .i64 xl) (.int .i64 xa);have HY:=ł hY;have lN:=ł hmv;clear hcc hhit hno hix hfs hY hmv;go_wp2_with fail;obtain⟨k0,k1,k2,k3⟩:=dF HY.out;refine bodyPost_ret (v := .tuple #[.agg #[.string xn,.int .u8 xk,.int .i64 xl,.int .i64 xa],.bool true]) ?_ rfl ⟨by rw[zK.out];rfl,HG2.out.trans lN.out (λx e => .inr (by omega))⟩;simp[results,Tryz.results28,go_sem,k0,k1,k2,k3]
 · have hno:∀ i (hi:i<f.slots.length),je name kind f.slots[i]=false:=by
    intro i
    induction i using Nat.strongRecOn with
    |ind i ih =>
     intro hi;cases hb:je name kind f.slots[i]with
     |false=>rfl
     |true=>exact absurd ⟨i,hi,hb,λk hk hki=>ih k hki hk⟩ hex
   obtain⟨hix,hfs⟩:=NJ f name kind hno;have zK:=ł hfs;rw[hix];obtain⟨hY,hmv⟩:=nW HZ2.out (.string ⟨#[]⟩) (.int .u8 0) (.int .i64 0) (.int .i64 0);have HY:=ł hY;have lN:=ł hmv;clear hno hix hfs hex hY hmv;go_wp2_with fail;obtain⟨k0,k1,k2,k3⟩:=dF HY.out;refine bodyPost_ret (v := .tuple #[.agg #[.string ⟨#[]⟩,.int .u8 0,.int .i64 0,.int .i64 0],.bool false]) ?_ rfl ⟨by rw[zK.out];rfl,HG2.out.trans lN.out (λx e => .inr (by omega))⟩;simp[results,Tryz.results28,go_sem,k0,k1,k2,k3]
structure aU where
 name:ByteArray
 params:List aA
 body:Tree
structure ak where
 name:ByteArray
 params:List aA
 pv:Value
 body:ae
def ak.d (p:ak):aU:=⟨p.name,p.params,p.body.t⟩
def ak.cells (p:ak):List Value := .string p.name :: p.pv :: p.body.cells
def ak.val:ak->Value
 |⟨s,_,pv,.mk k n bs kv _⟩ => .agg #[.string s,pv,.int .u8 k,.int .i64 n,.string bs,kv]
structure vR (w:World) (p:ak):Prop where
 name:p.name.size<=9223372036854775807
 params:ax 3 aA.cells w p.pv p.params
 body:aS w p.body
theorem vR.later {w w':World} {p:ak} (h:vR w p) (hm:Grow w w'):vR w' p:=⟨h.name,h.params.later hm,h.body.later hm⟩
structure lC (w:World) (v:Value) (l:List ak):Prop where
 row:ax 6 ak.cells w v l
 each:∀ p∈l,vR w p
theorem lC.later {w w':World} {v:Value} {l:List ak} (h:lC w v l) (hm:Grow w w'):lC w' v l:=⟨h.row.later hm,λp hp=>(h.each p hp).later hm⟩
def gz:ak:=⟨⟨#[]⟩,[],.slice none 0 0,.mk 0 0 ⟨#[]⟩ (.slice none 0 0) []⟩
def dY (l:List ak) (s:ByteArray):Option ak:=l.find? (λp=>p.name == s)
theorem V3 (l:List ak) (s:ByteArray) (j:Nat) (hj:j<l.length) (h:(l[j].name == s)=true) (hn:∀ i (hi:i<l.length),i<j->(l[i].name == s)=false):dY l s=some l[j]:=by
 unfold dY;rw[List.find?_eq_some_iff_getElem];exact⟨h,j,hj,rfl,λi hi=>by simp[hn i (by omega) hi]⟩
theorem VV (l:List ak) (s:ByteArray) (hn:∀ i (hi:i<l.length),(l[i].name == s)=false):dY l s=none:=by
 refine List.find?_eq_none.2 λx hx => ?_;obtain⟨i,hi,rfl⟩:=List.mem_iff_getElem.1 hx;simp[hn i hi]
theorem XT (w:World):vR w gz:=⟨by simp[gz,ByteArray.size],ax.nil _ _ _,.mk (by decide) (by simp[In64]) (by simp[ByteArray.size]) (ax.nil _ _ _) (by simp)⟩
theorem IJ {w:World} {v:Value} {l:List ak} (h:lC w v l) (s:ByteArray):vR w ((dY l s).getD gz):=by
 cases hf:dY l s with
 |none=>exact XT w
 |some p=>exact h.each p (List.mem_of_find?_eq_some hf)
theorem vR.form {w:World} {n:ByteArray} {p:List aA} {pv:Value} {b:ae} (h:vR w ⟨n,p,pv,b⟩):∃ a c,pv = .slice a p.length c/\p.length<=c/\p.length<=9223372036854775807:=h.params.form
theorem KN {w:World} {X:Nat} {a0 a1 a2 a3 a4 a5:Value} {t:TypeId} (h:w.heap[X]? = some (.cells #[a0,a1,a2,a3,a4,a5] t (0,0))) (b0 b1 b2 b3 b4 b5:Value) :
 ((((((w.setCell ⟨X,0,none⟩ b0).setCell ⟨X,1,none⟩ b1).setCell ⟨X,2,none⟩ b2).setCell ⟨X,3,none⟩ b3).setCell ⟨X,4,none⟩ b4).setCell ⟨X,5,none⟩ b5).heap[X]? = some (.cells #[b0,b1,b2,b3,b4,b5] t (0,0)) /\
 Mv (λb=>b=X) w ((((((w.setCell ⟨X,0,none⟩ b0).setCell ⟨X,1,none⟩ b1).setCell ⟨X,2,none⟩ b2).setCell ⟨X,3,none⟩ b3).setCell ⟨X,4,none⟩ b4).setCell ⟨X,5,none⟩ b5):=by
 constructor
 · have h1:=block_setCell (p:=⟨X,0,none⟩) h rfl b0;have h2:=block_setCell (p:=⟨X,1,none⟩) h1 rfl b1;have h3:=block_setCell (p:=⟨X,2,none⟩) h2 rfl b2;have h4:=block_setCell (p:=⟨X,3,none⟩) h3 rfl b3;have h5:=block_setCell (p:=⟨X,4,none⟩) h4 rfl b4;have h6:=block_setCell (p:=⟨X,5,none⟩) h5 rfl b5
   simpa using h6
 · exact((((((Mv.refl (λb=>b=X) w).setCell (p:=⟨X,0,none⟩) (.inl rfl) _).setCell (p:=⟨X,1,none⟩) (.inl rfl) _).setCell (p:=⟨X,2,none⟩) (.inl rfl) _).setCell (p:=⟨X,3,none⟩) (.inl rfl) _).setCell (p:=⟨X,4,none⟩) (.inl rfl) _).setCell (p:=⟨X,5,none⟩) (.inl rfl) _
theorem dK {w:World} {X:Nat} {c0 c1 c2 c3 c4 c5:Value} {t:TypeId} (h:w.heap[X]? = some (.cells #[c0,c1,c2,c3,c4,c5] t (0,0))):(w.cell? ⟨X,0,none⟩=some c0/\w.cell? ⟨X,1,none⟩=some c1/\w.cell? ⟨X,2,none⟩=some c2)/\w.cell? ⟨X,3,none⟩=some c3/\w.cell? ⟨X,4,none⟩=some c4/\w.cell? ⟨X,5,none⟩=some c5:=by
 simp[World.cell?,h]
theorem Jo (v:Value) (l:List ak) (s:ByteArray) (w:World) (hp:lC w v l) :
 Calls Tryz.prog 102 #[v,.string s] w λe w'=>e = .returned (.tuple #[((dY l s).getD gz).val,.bool (dY l s).isSome])/\Grow w w':=by
 obtain⟨pa,pc,rfl,hpc,hpl⟩:=hp.row.form;have HP:=ł hp;clear hp;have bg:=ł (show Grow w (w.alloc (.cells #[.string ⟨#[]⟩,.slice none 0 0,.int .u8 0,.int .i64 0,.string ⟨#[]⟩,.slice none 0 0] 35))from(Mv.refl _ _).alloc _);have HZ:=ł (heap_alloc_new w (.cells #[.string ⟨#[]⟩,.slice none 0 0,.int .u8 0,.int .i64 0,.string ⟨#[]⟩,.slice none 0 0] 35))
 go_enter Tryz.func102,Tryz.ntmps102
 go_wp2_with fail;generalize w.alloc (.cells #[.string ⟨#[]⟩,.slice none 0 0,.int .u8 0,.int .i64 0,.string ⟨#[]⟩,.slice none 0 0] 35)=w1 at *
 go_loopw [10] (λt wr=>∃ j:Nat,t = .int .i64 j/\j<=l.length/\(∀ i (hi:i<l.length),i<j->(l[i].name == s)=false)/\Grow w1 wr) (λt _=>l.length - (intOf t).toNat)
 case atStart=>exact⟨0,rfl,Nat.zero_le _,λi _ h=>by omega,Mv.refl _ _⟩
 obtain⟨j,rfl,hj,hno,hgr⟩:=hrel;have uX:=ł hno;have dh:=ł hgr;have bE:=ł (Mv.trans bg.out hgr (λ_ e=>e.elim));have hZ:=ai HZ.out hgr;have TV:=ł hZ;have hlz:=lt_of_block hZ;obtain⟨⟨z0,z1,z2⟩,z3,z4,z5⟩:=dK hZ;have zt:=aD hZ;clear hno hgr hZ;by_cases hlt:j<l.length
 · obtain⟨b,off,cap',e,_,hcc⟩:=(HP.out.row.later bE.out).at hlt;simp only[Value.slice.injEq,true_and]at e;obtain⟨rfl,rfl⟩:=e;have hxo:=HP.out.each l[j] (List.getElem_mem hlt);have Bh:=ł (λh=>V3 l s j hlt h uX.out);have HST:=ł (show((l[j].name == s)=false->∀ i (hi:i<l.length),i<j+1->(l[i].name == s)=false)from λh i hi hij=>by
    rcases Nat.lt_or_ge i j with h3|h3
    · exact uX.out i hi h3
    · obtain rfl:i=j:=by omega
      exact h)
   generalize l[j]=x at Bh HST hxo hcc;obtain⟨xn,xp,xpv,xb⟩:=x;obtain⟨xa,xc,rfl,-,-⟩:=hxo.form;have uY:=hxo.body;obtain⟨bk,bn,bs,LY,bl⟩:=xb;simp only at uY;obtain⟨ba,bc,rfl,-,-⟩:=uY.form;have c0:=hcc 0 _ rfl;have c1:=hcc 1 _ rfl;have c2:=hcc 2 _ rfl;have c3:=hcc 3 _ rfl;have c4:=hcc 4 _ rfl;have c5:=hcc 5 _ rfl;simp only[Nat.add_zero]at c0;simp only at Bh HST;have hbl:b<wr.heap.size:=World.block_lt_of_cell? wr _ c0;have hbb:=y7 xn s;generalize hbv:(xn == s)=bv at *;have aK:=ł (dh.out.alloc (.cells #[.string xn,.slice xa xp.length xc,.int .u8 bk,.int .i64 bn,.string bs,.slice ba bl.length bc] 35));clear hcc hxo uY hbv;cases bv with
   |true =>
    have HR:=ł (Bh.out rfl);obtain⟨hY,hmv⟩:=KN TV.out (.string xn) (.slice xa xp.length xc) (.int .u8 bk) (.int .i64 bn) (.string bs) (.slice ba bl.length bc);have HY:=ł (aO hY (.cells #[.string xn,.slice xa xp.length xc,.int .u8 bk,.int .i64 bn,.string bs,.slice ba bl.length bc] 35));have lN:=ł (bE.out.trans hmv (λx e => .inr (by omega)));clear hY hmv;go_wp2_with fail;obtain⟨⟨k0,k1,k2⟩,k3,k4,k5⟩:=dK HY.out;refine bodyPost_ret (v := .tuple #[.agg #[.string xn,.slice xa xp.length xc,.int .u8 bk,.int .i64 bn,.string bs,.slice ba bl.length bc],.bool true]) ?_ rfl ⟨by rw[HR.out];rfl,lN.out.alloc _⟩;simp[results,Tryz.results102,go_sem,k0,k1,k2,k3,k4,k5]
   |false =>
    have aY:=ł (HST.out rfl);go_wp2_with fail
    go_roundw
    case rel=>exact⟨j+1,by go_num,by omega,aY.out,aK.out⟩
    case measure=>simp[intOf];omega
 obtain rfl:j=l.length:=by omega
 have HR:=ł (VV l s (λi hi=>uX.out i hi hi));obtain⟨hY,hmv⟩:=KN TV.out (.string ⟨#[]⟩) (.slice none 0 0) (.int .u8 0) (.int .i64 0) (.string ⟨#[]⟩) (.slice none 0 0);have HY:=ł hY;have lN:=ł (bE.out.trans hmv (λx e => .inr (by omega)));clear hY hmv;go_wp2_with fail;obtain⟨⟨k0,k1,k2⟩,k3,k4,k5⟩:=dK HY.out;refine bodyPost_ret (v := .tuple #[.agg #[.string ⟨#[]⟩,.slice none 0 0,.int .u8 0,.int .i64 0,.string ⟨#[]⟩,.slice none 0 0],.bool false]) ?_ rfl ⟨by rw[HR.out];rfl,lN.out⟩;simp[results,Tryz.results102,go_sem,k0,k1,k2,k3,k4,k5]
theorem Qi (sv pv:Value) (f:az) (name:ByteArray) (kind:Int) (w:World) (hf:fV w sv f) (pa:Option Addr) (pn pc:Nat) (hpv:pv = .slice pa pn pc) :
 Calls Tryz.prog 100 #[.agg #[sv,.int .i64 f.cells,.int .i64 f.stacks,pv],.string name,.int .u8 kind] w (iK w (au f name kind).isSome):=by
 subst hpv;obtain⟨fa,fc,rfl,hfc,hfl⟩:=hf.row.form;have HG:=ł (show Grow w (w.alloc (.cells #[.slice fa f.slots.length fc,.int .i64 f.cells,.int .i64 f.stacks,.slice pa pn pc] 85))from(Mv.refl _ _).alloc _);have HF:=ł (oV (.slice fa f.slots.length fc) f name kind (w.alloc (.cells #[.slice fa f.slots.length fc,.int .i64 f.cells,.int .i64 f.stacks,.slice pa pn pc] 85)) (hf.later HG.out));clear hf
 go_enter Tryz.func100,Tryz.ntmps100
 go_wp2_with fail;refine HF.out.mono ?_;rintro e w2 ⟨rfl,hg2⟩;have HG2:=ł (Mv.trans HG.out hg2 (λ_ e=>e.elim));clear hg2 HF;generalize (au f name kind).getD noSlot=sl at *;obtain⟨s0,s1,s2,s3⟩:=sl;simp only;go_wp2_with fail;go_ret;exact⟨rfl,HG2.out.alloc _⟩
end
section
def YC (cs:List (Option Value)) (k:Nat) (P:List Value->World->Prop):Nat->List Value->World->Prop:=λj l w=>if j=k then P l w else match cs.getD j none with
 |some c=>l=[c]
 |none=>True
theorem cZ {cs:List (Option Value)} {k j:Nat} {P:List Value->World->Prop} {v c:Value} {x:World} (h:YC cs k P j [v] x) (hj:j≠k) (hc:cs.getD j none=some c):v=c:=by
 unfold YC at h;rw[if_neg hj,hc]at h
 simpa using h
theorem iL {cs:List (Option Value)} {k j:Nat} {P:List Value->World->Prop} {v c:Value} {x:World} (hj:j≠k) (hc:cs.getD j none=some c) (hv:v=c):YC cs k P j [v] x:=by
 unfold YC;rw[if_neg hj,hc,hv]
theorem QV {cs:List (Option Value)} {k:Nat} {P:List Value->World->Prop} {l:List Value} {x:World} (h:P l x):YC cs k P k l x:=by
 unfold YC;rw[if_pos rfl];exact h
theorem QW {cs:List (Option Value)} {k:Nat} {P:List Value->World->Prop} {l:List Value} {x:World} (h:YC cs k P k l x):P l x:=by
 unfold YC at h;rw[if_pos rfl]at h;exact h
theorem Zz {cs:List (Option Value)} {k:Nat} {P:List Value->World->Prop} {x y:World} (hP:∀ l,P l x->P l y) (j:Nat) (l:List Value) (h:YC cs k P j l x):YC cs k P j l y:=by
 unfold YC at h ⊢;split
 · rename_i hj;rw[if_pos hj]at h;exact hP l h
 · rename_i hj;rw[if_neg hj]at h;exact h
theorem Fj {cs:List (Option Value)} {k:Nat} {P:List Value->World->Prop} {x y:World} (j:Nat) (l:List Value) (hj:j≠k) (h:YC cs k P j l x):YC cs k P j l y:=by
 unfold YC at h ⊢;rw[if_neg hj]at h ⊢;exact h
end
end Go.Proofs.YtnobahchcongnaaGreat
