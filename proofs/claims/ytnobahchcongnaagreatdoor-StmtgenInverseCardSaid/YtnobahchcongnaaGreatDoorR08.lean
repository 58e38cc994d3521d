import Derived.Test.YtnobahchcongnaaGreatDoorR07
set_option linter.unusedSimpArgs false
set_option linter.unusedVariables false
set_option maxRecDepth 100000
set_option maxHeartbeats 25600000
namespace Go.Proofs.YtnobahchcongnaaGreatDoor
section
open Go.RowKit Go.Instr
structure ax where
 slots:List dA
 cells:Int
 stacks:Int
abbrev dA.val (s:dA):Value := .agg #[.string s.name,.int .u8 s.kind,.int .i64 s.len,.int .i64 s.at']
structure fE (w:World) (sv:Value) (f:ax):Prop where
 row:az 4 dA.cells w sv f.slots
theorem fE.later {w w':World} {sv:Value} {f:ax} (h:fE w sv f) (hm:Grow w w'):fE w' sv f:=⟨h.row.later hm⟩
def jW (name:ByteArray) (kind:Int) (s:dA):Bool:=s.name == name && s.kind == kind
def au (f:ax) (name:ByteArray) (kind:Int):Option dA:=f.slots.find? (jW name kind)
def noSlot:dA:=⟨⟨#[]⟩,0,0,0⟩
def DT (f:ax) (name:ByteArray) (kind:Int):Int:=match f.slots.findIdx? (jW name kind)with
 |some i=>i
 |none => -1
theorem PV (f:ax) (name:ByteArray) (kind:Int) (j:Nat) (hj:j<f.slots.length) (h:jW name kind f.slots[j]=true) (hn:∀ i (hi:i<f.slots.length),i<j->jW name kind f.slots[i]=false):DT f name kind=j/\au f name kind=some f.slots[j]:=by
 have h1:f.slots.findIdx? (jW name kind)=some j:=by
  rw[List.findIdx?_eq_some_iff_getElem];exact⟨hj,h,λi hi=>by simp[hn i (by omega) hi]⟩
 refine⟨by unfold DT;rw[h1],?_⟩;unfold au;rw[List.find?_eq_some_iff_getElem];exact⟨h,j,hj,rfl,λi hi=>by simp[hn i (by omega) hi]⟩
theorem PH (f:ax) (name:ByteArray) (kind:Int) (hn:∀ i (hi:i<f.slots.length),jW name kind f.slots[i]=false):DT f name kind = -1/\au f name kind=none:=by
 have hall:∀ x∈f.slots,jW name kind x=false:=λx hx=>by
  obtain⟨i,hi,rfl⟩:=List.mem_iff_getElem.1 hx;exact hn i hi
 refine⟨by unfold DT;rw[List.findIdx?_eq_none_iff.2 hall],List.find?_eq_none.2 λx hx=>by simp[hall x hx]⟩
theorem Eg (a b:ByteArray):(a.toList == b.toList)=(a == b):=by
 by_cases h:a=b
 · subst h;simp
 · have h2:(a == b)=false:=by simpa using h
   rw[h2];rw[beq_eq_false_iff_ne];intro e;exact h (by
    cases a with|mk x=>cases b with|mk y =>
    rw[ByteArray.toList_eq,ByteArray.toList_eq]at e;simp at e;rw[e])
theorem Yp (s:dA) (name:ByteArray) (kind:Int) (p q:Nat) (w:World) (tn tk:TypeId) (hp:w.heap[p]? = some (.cells #[.string name] tn (0,0))) (hq:w.heap[q]? = some (.cells #[.int .u8 kind] tk (0,0))) :
 Calls Tryz.prog 69 #[s.val,.pointer (some ⟨p,0,none⟩),.pointer (some ⟨q,0,none⟩)] w (jy w (jW name kind s)):=by
 obtain⟨sn,sk,sl,sa⟩:=s;have hp0:w.cell? ⟨p,0,none⟩=some (.string name):=by simp[World.cell?,hp]
 have hq0:w.cell? ⟨q,0,none⟩=some (.int .u8 kind):=by simp[World.cell?,hq]
 have hpl:=lt_of_block hp;have ll:=lt_of_block hq;have HG:=ł (show Grow w (w.alloc (.cells #[.string sn,.int .u8 sk,.int .i64 sl,.int .i64 sa] 95))from(Mv.refl _ _).alloc _);have hbb:=Eg sn name;clear hp hq;by_cases h1:(sn == name)=true
 · rw[h1]at hbb;have HR:=ł (show jW name kind ⟨sn,sk,sl,sa⟩=(sk == kind)from by simp[jW,h1])
   go_enter Tryz.func69,Tryz.ntmps69
   go_wp2_with fail;go_ret;exact⟨aK HR.out.symm,HG.out⟩
 · have h2:(sn == name)=false:=by simpa using h1
   rw[h2]at hbb;have HR:=ł (show jW name kind ⟨sn,sk,sl,sa⟩=false from by simp[jW,h2]);clear h1
   go_enter Tryz.func69,Tryz.ntmps69
   go_wp2_with fail;go_ret;exact⟨aK HR.out.symm,HG.out⟩
theorem XO (sv:Value) (f:ax) (name:ByteArray) (kind:Int) (p q:Nat) (w:World) (tn tk:TypeId) (hf:fE w sv f) (hp:w.heap[p]? = some (.cells #[.string name] tn (0,0))) (hq:w.heap[q]? = some (.cells #[.int .u8 kind] tk (0,0))) :
 Calls Tryz.prog 68 #[sv,.func (.func 69) #[] #[.pointer (some ⟨p,0,none⟩),.pointer (some ⟨q,0,none⟩)]] w λe w'=>e = .returned (.int .i64 (DT f name kind))/\Grow w w':=by
 obtain⟨fa,fc,rfl,hfc,hfl⟩:=hf.row.form;have HF:=ł hf;have HP:=ł hp;have HQ:=ł hq;clear hf hp hq
 go_enter Tryz.func68,Tryz.ntmps68
 go_wp2_with fail
 go_loopw [8] (λt wr=>∃ j:Nat,t = .int .i64 j/\j<=f.slots.length/\(∀ i (hi:i<f.slots.length),i<j->jW name kind f.slots[i]=false)/\Grow w wr) (λt _=>f.slots.length - (intOf t).toNat)
 case atStart=>exact⟨0,rfl,Nat.zero_le _,λi _ h=>by omega,Mv.refl _ _⟩
 obtain⟨j,rfl,hj,hno,hgr⟩:=hrel;have kJ:=ł hno;have bS:=ł hgr;clear hno hgr;by_cases hlt:j<f.slots.length
 · obtain⟨b,off,cap',e,_,hcc⟩:=(HF.out.row.later bS.out).at hlt;simp only[Value.slice.injEq,true_and]at e;obtain⟨rfl,rfl⟩:=e;have c0:=hcc 0 _ rfl;have c1:=hcc 1 _ rfl;have c2:=hcc 2 _ rfl;have c3:=hcc 3 _ rfl;simp only[Nat.add_zero]at c0;have hbl:b<wr.heap.size:=World.block_lt_of_cell? wr _ c0;have HC:=ł (Yp f.slots[j] name kind p q wr tn tk (ai HP.out bS.out) (ai HQ.out bS.out));have CJ:=ł (λh=>PV f name kind j hlt h kJ.out);have HST:=ł (show(jW name kind f.slots[j]=false->∀ i (hi:i<f.slots.length),i<j+1->jW name kind f.slots[i]=false)from λh i hi hij=>by
    rcases Nat.lt_or_ge i j with h3|h3
    · exact kJ.out i hi h3
    · obtain rfl:i=j:=by omega
      exact h)
   generalize jW name kind f.slots[j]=bv at *;generalize f.slots[j]=x at HC CJ c0 c1 c2 c3;obtain⟨xn,xk,xl,xa⟩:=x;simp only at c0 c1 c2 c3 HC;clear hcc;go_wp2_with fail;refine HC.out.mono ?_;rintro e w2 ⟨rfl,hg2⟩;have HG2:=ł (Mv.trans bS.out hg2 (λ_ e=>e.elim));clear hg2;cases bv with
   |true =>
    have HR:=ł (CJ.out rfl).1;go_wp2_with fail;go_ret;exact⟨iF HR.out.symm,HG2.out⟩
   |false =>
    have bA:=ł (HST.out rfl);go_wp2_with fail
    go_roundw
    case rel=>exact⟨j+1,by go_num,by omega,bA.out,HG2.out⟩
    case measure=>simp[intOf];omega
 obtain rfl:j=f.slots.length:=by omega
 have HR:=ł (PH f name kind (λi hi=>kJ.out i hi hi)).1;go_wp2_with fail;go_ret;exact⟨iF HR.out.symm,bS.out⟩
theorem mh {w:World} {X:Nat} {a b c d:Value} {t:TypeId} (h:w.heap[X]? = some (.cells #[a,b,c,d] t (0,0))) (p q r s:Value) :
 ((((w.setCell ⟨X,0,none⟩ p).setCell ⟨X,1,none⟩ q).setCell ⟨X,2,none⟩ r).setCell ⟨X,3,none⟩ s).heap[X]? = some (.cells #[p,q,r,s] t (0,0))/\Mv (λb=>b=X) w ((((w.setCell ⟨X,0,none⟩ p).setCell ⟨X,1,none⟩ q).setCell ⟨X,2,none⟩ r).setCell ⟨X,3,none⟩ s):=by
 constructor
 · have h1:=block_setCell (p:=⟨X,0,none⟩) h rfl p;have h2:=block_setCell (p:=⟨X,1,none⟩) h1 rfl q;have h3:=block_setCell (p:=⟨X,2,none⟩) h2 rfl r;have h4:=block_setCell (p:=⟨X,3,none⟩) h3 rfl s
   simpa using h4
 · exact((((Mv.refl (λb=>b=X) w).setCell (p:=⟨X,0,none⟩) (.inl rfl) _).setCell (p:=⟨X,1,none⟩) (.inl rfl) _).setCell (p:=⟨X,2,none⟩) (.inl rfl) _).setCell (p:=⟨X,3,none⟩) (.inl rfl) _
theorem aG {w:World} {X:Nat} {c:Array Value} {t:TypeId} (h:w.heap[X]? = some (.cells c t (0,0))) (i:Nat):w.frozen? ⟨X,i,none⟩=false:=by simp[World.frozen?,h]
theorem oZ (sv:Value) (f:ax) (name:ByteArray) (kind:Int) (w:World) (hf:fE w sv f) :
 Calls Tryz.prog 37 #[.agg #[sv,.int .i64 f.cells,.int .i64 f.stacks],.string name,.int .u8 kind] w λe w'=>e = .returned (.tuple #[((au f name kind).getD noSlot).val,.bool (au f name kind).isSome])/\Grow w w':=by
 obtain⟨fa,fc,rfl,hfc,hfl⟩:=hf.row.form;have HF:=ł hf;clear hf;have hg1:Grow w ((((w.alloc (.cells #[.slice fa f.slots.length fc,.int .i64 f.cells,.int .i64 f.stacks] 27)).alloc (.cells #[.string name] 9)).alloc (.cells #[.int .u8 kind] 5)).alloc (.cells #[.string ⟨#[]⟩,.int .u8 0,.int .i64 0,.int .i64 0] 95)):=((((Mv.refl _ _).alloc _).alloc _).alloc _).alloc _;have hB:=aS (aS (aS (heap_alloc_new w (.cells #[.slice fa f.slots.length fc,.int .i64 f.cells,.int .i64 f.stacks] 27)) (.cells #[.string name] 9)) (.cells #[.int .u8 kind] 5)) (.cells #[.string ⟨#[]⟩,.int .u8 0,.int .i64 0,.int .i64 0] 95);have hN:=aS (aS (heap_alloc_new (w.alloc (.cells #[.slice fa f.slots.length fc,.int .i64 f.cells,.int .i64 f.stacks] 27)) (.cells #[.string name] 9)) (.cells #[.int .u8 kind] 5)) (.cells #[.string ⟨#[]⟩,.int .u8 0,.int .i64 0,.int .i64 0] 95);have hK:=aS (heap_alloc_new ((w.alloc (.cells #[.slice fa f.slots.length fc,.int .i64 f.cells,.int .i64 f.stacks] 27)).alloc (.cells #[.string name] 9)) (.cells #[.int .u8 kind] 5)) (.cells #[.string ⟨#[]⟩,.int .u8 0,.int .i64 0,.int .i64 0] 95);have hZ:=heap_alloc_new (((w.alloc (.cells #[.slice fa f.slots.length fc,.int .i64 f.cells,.int .i64 f.stacks] 27)).alloc (.cells #[.string name] 9)).alloc (.cells #[.int .u8 kind] 5)) (.cells #[.string ⟨#[]⟩,.int .u8 0,.int .i64 0,.int .i64 0] 95);simp only[World.size_alloc]at hN hK hZ;have df:=ł hg1;have HB:=ł hB;have HZ:=ł hZ;have ow:=ł (XO (.slice fa f.slots.length fc) f name kind (w.heap.size+1) (w.heap.size+1+1) _ _ _ (HF.out.later hg1) hN hK);clear hg1 hB hN hK hZ
 go_enter Tryz.func37,Tryz.ntmps37
 go_wp2_with fail;generalize (((w.alloc (.cells #[.slice fa f.slots.length fc,.int .i64 f.cells,.int .i64 f.stacks] 27)).alloc (.cells #[.string name] 9)).alloc (.cells #[.int .u8 kind] 5)).alloc (.cells #[.string ⟨#[]⟩,.int .u8 0,.int .i64 0,.int .i64 0] 95)=w1 at *;refine ow.out.mono ?_;rintro e w2 ⟨rfl,hg2⟩;have hB2:=ai HB.out hg2;have hZ2:=ai HZ.out hg2;have HG2:=ł (Mv.trans df.out hg2 (λ_ e=>e.elim));have HZ2:=ł hZ2;have b0:w2.cell? ⟨w.heap.size,0,none⟩=some (.slice fa f.slots.length fc):=by simp[World.cell?,hB2]
 have hlb:=lt_of_block hB2;have hlz:=lt_of_block hZ2;obtain⟨z0,z1,z2,z3⟩:=dN hZ2;have zt:=aG hZ2;clear hg2 hB2 hZ2 ow;by_cases hex:∃ j,∃ hj:j<f.slots.length,jW name kind f.slots[j]=true/\∀ i (hi:i<f.slots.length),i<j->jW name kind f.slots[i]=false
 · obtain⟨j,hj,hhit,hno⟩:=hex;obtain⟨hix,hfs⟩:=PV f name kind j hj hhit hno;have AY:=ł hfs;rw[hix];obtain⟨b,off,cap',e,_,hcc⟩:=(HF.out.row.later HG2.out).at hj;simp only[Value.slice.injEq,true_and]at e;obtain⟨rfl,rfl⟩:=e;have c0:=hcc 0 _ rfl;have c1:=hcc 1 _ rfl;have c2:=hcc 2 _ rfl;have c3:=hcc 3 _ rfl;simp only[Nat.add_zero]at c0;have hbl:b<w2.heap.size:=World.block_lt_of_cell? w2 _ c0;have hj0:¬ ((j:Int)<0):=by omega
   generalize f.slots[j]=x at AY c0 c1 c2 c3;obtain⟨xn,xk,xl,xa⟩:=x;simp only at c0 c1 c2 c3;obtain⟨hY,hmv⟩:=mh HZ2.out (.string xn) (.int .u8 xk) (.int .i64 xl) (.int .i64 xa);have HY:=ł hY;have j5:=ł hmv;clear hcc hhit hno hix hfs hY hmv;go_wp2_with fail;obtain⟨k0,k1,k2,k3⟩:=dN HY.out;refine bodyPost_ret (v := .tuple #[.agg #[.string xn,.int .u8 xk,.int .i64 xl,.int .i64 xa],.bool true]) ?_ rfl ⟨by rw[AY.out];rfl,HG2.out.trans j5.out (λx e => .inr (by omega))⟩;simp[results,Tryz.results37,go_sem,k0,k1,k2,k3]
 · have hno:∀ i (hi:i<f.slots.length),jW name kind f.slots[i]=false:=by
    intro i
    induction i using Nat.strongRecOn with
    |ind i ih =>
     intro hi;cases hb:jW name kind f.slots[i]with
     |false=>rfl
     |true=>exact absurd ⟨i,hi,hb,λk hk hki=>ih k hki hk⟩ hex
   obtain⟨hix,hfs⟩:=PH f name kind hno;have AY:=ł hfs;rw[hix];obtain⟨hY,hmv⟩:=mh HZ2.out (.string ⟨#[]⟩) (.int .u8 0) (.int .i64 0) (.int .i64 0);have HY:=ł hY;have j5:=ł hmv;clear hno hix hfs hex hY hmv;go_wp2_with fail;obtain⟨k0,k1,k2,k3⟩:=dN HY.out;refine bodyPost_ret (v := .tuple #[.agg #[.string ⟨#[]⟩,.int .u8 0,.int .i64 0,.int .i64 0],.bool false]) ?_ rfl ⟨by rw[AY.out];rfl,HG2.out.trans j5.out (λx e => .inr (by omega))⟩;simp[results,Tryz.results37,go_sem,k0,k1,k2,k3]
structure bQ where
 name:ByteArray
 params:List bu
 body:Tree
structure ak where
 name:ByteArray
 params:List bu
 pv:Value
 body:ae
def ak.d (p:ak):bQ:=⟨p.name,p.params,p.body.t⟩
def ak.cells (p:ak):List Value := .string p.name :: p.pv :: p.body.cells
def ak.val:ak->Value
 |⟨s,_,pv,.mk k n bs kv _⟩ => .agg #[.string s,pv,.int .u8 k,.int .i64 n,.string bs,kv]
structure wT (w:World) (p:ak):Prop where
 name:p.name.size<=9223372036854775807
 params:az 3 bu.cells w p.pv p.params
 body:aR w p.body
theorem wT.later {w w':World} {p:ak} (h:wT w p) (hm:Grow w w'):wT w' p:=⟨h.name,h.params.later hm,h.body.later hm⟩
structure mg (w:World) (v:Value) (l:List ak):Prop where
 row:az 6 ak.cells w v l
 each:∀ p∈l,wT w p
theorem mg.later {w w':World} {v:Value} {l:List ak} (h:mg w v l) (hm:Grow w w'):mg w' v l:=⟨h.row.later hm,λp hp=>(h.each p hp).later hm⟩
def gU:ak:=⟨⟨#[]⟩,[],.slice none 0 0,.mk 0 0 ⟨#[]⟩ (.slice none 0 0) []⟩
def eQ (l:List ak) (s:ByteArray):Option ak:=l.find? (λp=>p.name == s)
theorem Xr (l:List ak) (s:ByteArray) (j:Nat) (hj:j<l.length) (h:(l[j].name == s)=true) (hn:∀ i (hi:i<l.length),i<j->(l[i].name == s)=false):eQ l s=some l[j]:=by
 unfold eQ;rw[List.find?_eq_some_iff_getElem];exact⟨h,j,hj,rfl,λi hi=>by simp[hn i (by omega) hi]⟩
theorem Xj (l:List ak) (s:ByteArray) (hn:∀ i (hi:i<l.length),(l[i].name == s)=false):eQ l s=none:=by
 refine List.find?_eq_none.2 λx hx => ?_;obtain⟨i,hi,rfl⟩:=List.mem_iff_getElem.1 hx;simp[hn i hi]
theorem Zj (w:World):wT w gU:=⟨by simp[gU,ByteArray.size],az.nil _ _ _,.mk (by decide) (by simp[In64]) (by simp[ByteArray.size]) (az.nil _ _ _) (by simp)⟩
theorem Ke {w:World} {v:Value} {l:List ak} (h:mg w v l) (s:ByteArray):wT w ((eQ l s).getD gU):=by
 cases hf:eQ l s with
 |none=>exact Zj w
 |some p=>exact h.each p (List.mem_of_find?_eq_some hf)
theorem wT.form {w:World} {n:ByteArray} {p:List bu} {pv:Value} {b:ae} (h:wT w ⟨n,p,pv,b⟩):∃ a c,pv = .slice a p.length c/\p.length<=c/\p.length<=9223372036854775807:=h.params.form
theorem Mh {w:World} {X:Nat} {a0 a1 a2 a3 a4 a5:Value} {t:TypeId} (h:w.heap[X]? = some (.cells #[a0,a1,a2,a3,a4,a5] t (0,0))) (b0 b1 b2 b3 b4 b5:Value) :
 ((((((w.setCell ⟨X,0,none⟩ b0).setCell ⟨X,1,none⟩ b1).setCell ⟨X,2,none⟩ b2).setCell ⟨X,3,none⟩ b3).setCell ⟨X,4,none⟩ b4).setCell ⟨X,5,none⟩ b5).heap[X]? = some (.cells #[b0,b1,b2,b3,b4,b5] t (0,0)) /\
 Mv (λb=>b=X) w ((((((w.setCell ⟨X,0,none⟩ b0).setCell ⟨X,1,none⟩ b1).setCell ⟨X,2,none⟩ b2).setCell ⟨X,3,none⟩ b3).setCell ⟨X,4,none⟩ b4).setCell ⟨X,5,none⟩ b5):=by
 constructor
 · have h1:=block_setCell (p:=⟨X,0,none⟩) h rfl b0;have h2:=block_setCell (p:=⟨X,1,none⟩) h1 rfl b1;have h3:=block_setCell (p:=⟨X,2,none⟩) h2 rfl b2;have h4:=block_setCell (p:=⟨X,3,none⟩) h3 rfl b3;have h5:=block_setCell (p:=⟨X,4,none⟩) h4 rfl b4;have h6:=block_setCell (p:=⟨X,5,none⟩) h5 rfl b5
   simpa using h6
 · exact((((((Mv.refl (λb=>b=X) w).setCell (p:=⟨X,0,none⟩) (.inl rfl) _).setCell (p:=⟨X,1,none⟩) (.inl rfl) _).setCell (p:=⟨X,2,none⟩) (.inl rfl) _).setCell (p:=⟨X,3,none⟩) (.inl rfl) _).setCell (p:=⟨X,4,none⟩) (.inl rfl) _).setCell (p:=⟨X,5,none⟩) (.inl rfl) _
theorem yz {w:World} {X:Nat} {c0 c1 c2 c3 c4 c5:Value} {t:TypeId} (h:w.heap[X]? = some (.cells #[c0,c1,c2,c3,c4,c5] t (0,0))):(w.cell? ⟨X,0,none⟩=some c0/\w.cell? ⟨X,1,none⟩=some c1/\w.cell? ⟨X,2,none⟩=some c2)/\w.cell? ⟨X,3,none⟩=some c3/\w.cell? ⟨X,4,none⟩=some c4/\w.cell? ⟨X,5,none⟩=some c5:=by
 simp[World.cell?,h]
theorem KE (v:Value) (l:List ak) (s:ByteArray) (w:World) (hp:mg w v l) :
 Calls Tryz.prog 99 #[v,.string s] w λe w'=>e = .returned (.tuple #[((eQ l s).getD gU).val,.bool (eQ l s).isSome])/\Grow w w':=by
 obtain⟨pa,pc,rfl,hpc,hpl⟩:=hp.row.form;have HP:=ł hp;clear hp;have df:=ł (show Grow w (w.alloc (.cells #[.string ⟨#[]⟩,.slice none 0 0,.int .u8 0,.int .i64 0,.string ⟨#[]⟩,.slice none 0 0] 60))from(Mv.refl _ _).alloc _);have HZ:=ł (heap_alloc_new w (.cells #[.string ⟨#[]⟩,.slice none 0 0,.int .u8 0,.int .i64 0,.string ⟨#[]⟩,.slice none 0 0] 60))
 go_enter Tryz.func99,Tryz.ntmps99
 go_wp2_with fail;generalize w.alloc (.cells #[.string ⟨#[]⟩,.slice none 0 0,.int .u8 0,.int .i64 0,.string ⟨#[]⟩,.slice none 0 0] 60)=w1 at *
 go_loopw [10] (λt wr=>∃ j:Nat,t = .int .i64 j/\j<=l.length/\(∀ i (hi:i<l.length),i<j->(l[i].name == s)=false)/\Grow w1 wr) (λt _=>l.length - (intOf t).toNat)
 case atStart=>exact⟨0,rfl,Nat.zero_le _,λi _ h=>by omega,Mv.refl _ _⟩
 obtain⟨j,rfl,hj,hno,hgr⟩:=hrel;have kJ:=ł hno;have bS:=ł hgr;have bf:=ł (Mv.trans df.out hgr (λ_ e=>e.elim));have hZ:=ai HZ.out hgr;have Vj:=ł hZ;have hlz:=lt_of_block hZ;obtain⟨⟨z0,z1,z2⟩,z3,z4,z5⟩:=yz hZ;have zt:=aG hZ;clear hno hgr hZ;by_cases hlt:j<l.length
 · obtain⟨b,off,cap',e,_,hcc⟩:=(HP.out.row.later bf.out).at hlt;simp only[Value.slice.injEq,true_and]at e;obtain⟨rfl,rfl⟩:=e;have hxo:=HP.out.each l[j] (List.getElem_mem hlt);have CJ:=ł (λh=>Xr l s j hlt h kJ.out);have HST:=ł (show((l[j].name == s)=false->∀ i (hi:i<l.length),i<j+1->(l[i].name == s)=false)from λh i hi hij=>by
    rcases Nat.lt_or_ge i j with h3|h3
    · exact kJ.out i hi h3
    · obtain rfl:i=j:=by omega
      exact h)
   generalize l[j]=x at CJ HST hxo hcc;obtain⟨xn,xp,Vk,xb⟩:=x;obtain⟨xa,xc,rfl,-,-⟩:=hxo.form;have uC:=hxo.body;obtain⟨bk,bn,bs,Jk,bl⟩:=xb;simp only at uC;obtain⟨ba,bc,rfl,-,-⟩:=uC.form;have c0:=hcc 0 _ rfl;have c1:=hcc 1 _ rfl;have c2:=hcc 2 _ rfl;have c3:=hcc 3 _ rfl;have c4:=hcc 4 _ rfl;have c5:=hcc 5 _ rfl;simp only[Nat.add_zero]at c0;simp only at CJ HST;have hbl:b<wr.heap.size:=World.block_lt_of_cell? wr _ c0;have hbb:=Eg xn s;generalize hbv:(xn == s)=bv at *;have aM:=ł (bS.out.alloc (.cells #[.string xn,.slice xa xp.length xc,.int .u8 bk,.int .i64 bn,.string bs,.slice ba bl.length bc] 60));clear hcc hxo uC hbv;cases bv with
   |true =>
    have HR:=ł (CJ.out rfl);obtain⟨hY,hmv⟩:=Mh Vj.out (.string xn) (.slice xa xp.length xc) (.int .u8 bk) (.int .i64 bn) (.string bs) (.slice ba bl.length bc);have HY:=ł (aS hY (.cells #[.string xn,.slice xa xp.length xc,.int .u8 bk,.int .i64 bn,.string bs,.slice ba bl.length bc] 60));have j5:=ł (bf.out.trans hmv (λx e => .inr (by omega)));clear hY hmv;go_wp2_with fail;obtain⟨⟨k0,k1,k2⟩,k3,k4,k5⟩:=yz HY.out;refine bodyPost_ret (v := .tuple #[.agg #[.string xn,.slice xa xp.length xc,.int .u8 bk,.int .i64 bn,.string bs,.slice ba bl.length bc],.bool true]) ?_ rfl ⟨by rw[HR.out];rfl,j5.out.alloc _⟩;simp[results,Tryz.results99,go_sem,k0,k1,k2,k3,k4,k5]
   |false =>
    have bA:=ł (HST.out rfl);go_wp2_with fail
    go_roundw
    case rel=>exact⟨j+1,by go_num,by omega,bA.out,aM.out⟩
    case measure=>simp[intOf];omega
 obtain rfl:j=l.length:=by omega
 have HR:=ł (Xj l s (λi hi=>kJ.out i hi hi));obtain⟨hY,hmv⟩:=Mh Vj.out (.string ⟨#[]⟩) (.slice none 0 0) (.int .u8 0) (.int .i64 0) (.string ⟨#[]⟩) (.slice none 0 0);have HY:=ł hY;have j5:=ł (bf.out.trans hmv (λx e => .inr (by omega)));clear hY hmv;go_wp2_with fail;obtain⟨⟨k0,k1,k2⟩,k3,k4,k5⟩:=yz HY.out;refine bodyPost_ret (v := .tuple #[.agg #[.string ⟨#[]⟩,.slice none 0 0,.int .u8 0,.int .i64 0,.string ⟨#[]⟩,.slice none 0 0],.bool false]) ?_ rfl ⟨by rw[HR.out];rfl,j5.out⟩;simp[results,Tryz.results99,go_sem,k0,k1,k2,k3,k4,k5]
theorem RA (sv pv:Value) (f:ax) (name:ByteArray) (kind:Int) (w:World) (hf:fE w sv f) (pa:Option Addr) (pn pc:Nat) (hpv:pv = .slice pa pn pc) :
 Calls Tryz.prog 97 #[.agg #[sv,.int .i64 f.cells,.int .i64 f.stacks,pv],.string name,.int .u8 kind] w (jy w (au f name kind).isSome):=by
 subst hpv;obtain⟨fa,fc,rfl,hfc,hfl⟩:=hf.row.form;have HG:=ł (show Grow w (w.alloc (.cells #[.slice fa f.slots.length fc,.int .i64 f.cells,.int .i64 f.stacks,.slice pa pn pc] 62))from(Mv.refl _ _).alloc _);have HF:=ł (oZ (.slice fa f.slots.length fc) f name kind (w.alloc (.cells #[.slice fa f.slots.length fc,.int .i64 f.cells,.int .i64 f.stacks,.slice pa pn pc] 62)) (hf.later HG.out));clear hf
 go_enter Tryz.func97,Tryz.ntmps97
 go_wp2_with fail;refine HF.out.mono ?_;rintro e w2 ⟨rfl,hg2⟩;have HG2:=ł (Mv.trans HG.out hg2 (λ_ e=>e.elim));clear hg2 HF;generalize (au f name kind).getD noSlot=sl at *;obtain⟨s0,s1,s2,s3⟩:=sl;simp only;go_wp2_with fail;go_ret;exact⟨rfl,HG2.out.alloc _⟩
end
section
def YC (cs:List (Option Value)) (k:Nat) (P:List Value->World->Prop):Nat->List Value->World->Prop:=λj l w=>if j=k then P l w else match cs.getD j none with
 |some c=>l=[c]
 |none=>True
theorem dm {cs:List (Option Value)} {k j:Nat} {P:List Value->World->Prop} {v c:Value} {x:World} (h:YC cs k P j [v] x) (hj:j≠k) (hc:cs.getD j none=some c):v=c:=by
 unfold YC at h;rw[if_neg hj,hc]at h
 simpa using h
theorem iO {cs:List (Option Value)} {k j:Nat} {P:List Value->World->Prop} {v c:Value} {x:World} (hj:j≠k) (hc:cs.getD j none=some c) (hv:v=c):YC cs k P j [v] x:=by
 unfold YC;rw[if_neg hj,hc,hv]
theorem Sn {cs:List (Option Value)} {k:Nat} {P:List Value->World->Prop} {l:List Value} {x:World} (h:P l x):YC cs k P k l x:=by
 unfold YC;rw[if_pos rfl];exact h
theorem Sq {cs:List (Option Value)} {k:Nat} {P:List Value->World->Prop} {l:List Value} {x:World} (h:YC cs k P k l x):P l x:=by
 unfold YC at h;rw[if_pos rfl]at h;exact h
theorem aal {cs:List (Option Value)} {k:Nat} {P:List Value->World->Prop} {x y:World} (hP:∀ l,P l x->P l y) (j:Nat) (l:List Value) (h:YC cs k P j l x):YC cs k P j l y:=by
 unfold YC at h ⊢;split
 · rename_i hj;rw[if_pos hj]at h;exact hP l h
 · rename_i hj;rw[if_neg hj]at h;exact h
theorem Hl {cs:List (Option Value)} {k:Nat} {P:List Value->World->Prop} {x y:World} (j:Nat) (l:List Value) (hj:j≠k) (h:YC cs k P j l x):YC cs k P j l y:=by
 unfold YC at h ⊢;rw[if_neg hj]at h ⊢;exact h
end
section
open Go.RowKit Go.Instr
def tV (l:List bQ) (s:ByteArray):Option bQ:=l.find? (λp=>p.name == s)
theorem Q0 (l:List ak) (s:ByteArray):tV (l.map ak.d) s=(eQ l s).map ak.d:=by
 unfold tV eQ
 induction l with
 |nil=>rfl
 |cons p l ih =>
  simp only[List.map_cons,List.find?_cons];have:(p.d.name == s)=(p.name == s):=rfl;rw[this];cases(p.name == s)with
  |true=>rfl
  |false=>exact ih
def vM (f:ax) (procs:List bQ) (name:ByteArray) (kids:List Tree):Bool:=match tV procs name with
 |none=>false
 |some p=>(kids.zip p.params).all λx=>(au f x.1.name x.2.kind).isSome
theorem aC {w:World} {X:Nat} {c0 c1 c2 c3:Value} {t:TypeId} (h:w.heap[X]? = some (.cells #[c0,c1,c2,c3] t (0,0))):(w.cell? ⟨X,0,none⟩=some c0/\w.cell? ⟨X,1,none⟩=some c1)/\w.cell? ⟨X,2,none⟩=some c2/\w.cell? ⟨X,3,none⟩=some c3:=by simp[World.cell?,h]
theorem Ph (sv pv:Value) (f:ax) (procs:List ak) (k n:Int) (s:ByteArray) (kv:Value) (l:List ae) (w:World) (hf:fE w sv f) (hp:mg w pv procs) (hx:aR w (.mk k n s kv l)) :
 Calls Tryz.prog 98 #[.agg #[sv,.int .i64 f.cells,.int .i64 f.stacks,pv],ae.val (.mk k n s kv l)] w (jy w (vM f (procs.map ak.d) s (ae.ts l))):=by
 obtain⟨fa,fc,rfl,hfc,hfl⟩:=hf.row.form;obtain⟨ga,gc,rfl,hgc,hgl⟩:=hp.row.form;obtain⟨a,cap,rfl,hcap,hlen⟩:=hx.form;have HF:=ł hf;have HP:=ł hp;have HX:=ł hx;clear hf hp hx;simp only[ae.val];have hg1:Grow w ((w.alloc (.cells #[.slice fa f.slots.length fc,.int .i64 f.cells,.int .i64 f.stacks,.slice ga procs.length gc] 62)).alloc (.cells #[.int .u8 k,.int .i64 n,.string s,.slice a l.length cap] 24)):=((Mv.refl _ _).alloc _).alloc _;have hU:=aS (heap_alloc_new w (.cells #[.slice fa f.slots.length fc,.int .i64 f.cells,.int .i64 f.stacks,.slice ga procs.length gc] 62)) (.cells #[.int .u8 k,.int .i64 n,.string s,.slice a l.length cap] 24);have hN:=heap_alloc_new (w.alloc (.cells #[.slice fa f.slots.length fc,.int .i64 f.cells,.int .i64 f.stacks,.slice ga procs.length gc] 62)) (.cells #[.int .u8 k,.int .i64 n,.string s,.slice a l.length cap] 24);rw[World.size_alloc]at hN;have df:=ł hg1;have HU:=ł hU;have HN:=ł hN;have Vl:=ł (KE (.slice ga procs.length gc) procs s ((w.alloc (.cells #[.slice fa f.slots.length fc,.int .i64 f.cells,.int .i64 f.stacks,.slice ga procs.length gc] 62)).alloc (.cells #[.int .u8 k,.int .i64 n,.string s,.slice a l.length cap] 24)) (HP.out.later hg1));clear hg1 hU hN
 go_enter Tryz.func98,Tryz.ntmps98
 go_wp2_with fail;generalize (w.alloc (.cells #[.slice fa f.slots.length fc,.int .i64 f.cells,.int .i64 f.stacks,.slice ga procs.length gc] 62)).alloc (.cells #[.int .u8 k,.int .i64 n,.string s,.slice a l.length cap] 24)=w1 at *;refine Vl.out.mono ?_;rintro e w2 ⟨rfl,hg2⟩;have HG2:=ł (Mv.trans df.out hg2 (λ_ e=>e.elim));have NC:=ai HU.out hg2;have fK:=ai HN.out hg2;have uD:=ł (Q0 procs s);have hpo:=Ke (HP.out.later HG2.out) s;generalize hfp:eQ procs s=fp at *;clear hg2 Vl hfp;cases fp with
 |none =>
  have HR:=ł (show vM f (procs.map ak.d) s (ae.ts l)=false from by unfold vM;rw[uD.out];rfl);simp only[Option.getD_none,Option.isSome_none,gU,ak.val];clear hpo NC fK;go_wp2_with fail;go_ret;exact⟨aK HR.out.symm,HG2.out.alloc _⟩
 |some p =>
 have EW:=ł (show vM f (procs.map ak.d) s (ae.ts l)=((ae.ts l).zip p.params).all (λx=>(au f x.1.name x.2.kind).isSome)from by unfold vM;rw[uD.out];rfl);simp only[Option.getD_some,Option.isSome_some]at hpo ⊢;obtain⟨xn,xp,Vk,xb⟩:=p;obtain⟨xa,xc,rfl,Vm,hxl⟩:=hpo.form;have fZ:=ł hpo.params;have uC:=hpo.body;obtain⟨bk,bn,bs,Jk,bl⟩:=xb;simp only at uC fZ EW;obtain⟨ba,bc,rfl,-,-⟩:=uC.form;simp only[ak.val];have aH:=ł (HG2.out.alloc (.cells #[.string xn,.slice xa xp.length xc,.int .u8 bk,.int .i64 bn,.string bs,.slice ba bl.length bc] 60));have EX:=ł (aS NC (.cells #[.string xn,.slice xa xp.length xc,.int .u8 bk,.int .i64 bn,.string bs,.slice ba bl.length bc] 60));have pO:=ł (aS fK (.cells #[.string xn,.slice xa xp.length xc,.int .u8 bk,.int .i64 bn,.string bs,.slice ba bl.length bc] 60));have q8:=ł (heap_alloc_new w2 (.cells #[.string xn,.slice xa xp.length xc,.int .u8 bk,.int .i64 bn,.string bs,.slice ba bl.length bc] 60));have Td:=ł (fZ.out.later ((Mv.refl _ _).alloc (.cells #[.string xn,.slice xa xp.length xc,.int .u8 bk,.int .i64 bn,.string bs,.slice ba bl.length bc] 60)));obtain⟨⟨n0,n1⟩,n2,n3⟩:=aC fK;have hln:=lt_of_block fK;clear hpo uC NC fK uD fZ;go_wp2_with fail;clear n0 n1 n2 n3 hln;obtain⟨m,hm,hm1,hm2,jL⟩:∃ m:Nat,min (l.length:Int) (xp.length:Int)=m/\m<=l.length/\m<=xp.length/\(m=l.length\/m=xp.length):=⟨min l.length xp.length,by omega,by omega,by omega,by omega⟩;rw[hm];have xK:=ł jL;clear hm jL;generalize w2.alloc (.cells #[.string xn,.slice xa xp.length xc,.int .u8 bk,.int .i64 bn,.string bs,.slice ba bl.length bc] 60)=w3 at *
 go_loopw [25] (λt wr=>∃ j:Nat,t = .int .i64 j/\j<=m/\(∀ i (h1:i<l.length) (h2:i<xp.length),i<j->(au f l[i].t.name xp[i].kind).isSome=true)/\Grow w3 wr) (λt _=>m - (intOf t).toNat)
 case atStart=>exact⟨0,rfl,Nat.zero_le _,λi _ _ h=>by omega,Mv.refl _ _⟩
 obtain⟨j,rfl,hj,hall,hgr⟩:=hrel;have dE:=ł hall;have bS:=ł hgr;have bf:=ł (Mv.trans aH.out hgr (λ_ e=>e.elim));clear hall hgr;by_cases hlt:j<m
 · have hjl:j<l.length:=by omega
   have hjp:j<xp.length:=by omega
   obtain⟨kb,ko,cap',e,_,hcc⟩:=HX.out.row.2.2.2.1.at hjl;simp only[Value.slice.injEq,true_and]at e;obtain⟨rfl,rfl⟩:=e;obtain⟨pb,po,cap2,e,_,hcp⟩:=Td.out.at hjp;simp only[Value.slice.injEq,true_and]at e;obtain⟨rfl,rfl⟩:=e;have HT:=ł (show(au f l[j].t.name xp[j].kind).isSome=true->∀ i (h1:i<l.length) (h2:i<xp.length),i<j+1->(au f l[i].t.name xp[i].kind).isSome=true from λh i h1 h2 hij=>by
    rcases Nat.lt_or_ge i j with h3|h3
    · exact dE.out i h1 h2 h3
    · obtain rfl:i=j:=by omega
      exact h)
   have dV:=ł (show(au f l[j].t.name xp[j].kind).isSome=false->vM f (procs.map ak.d) s (ae.ts l)=false from λh=>by
    rw[EW.out];refine List.all_eq_false.2 ⟨(l[j].t,xp[j]),?_,by simp[h]⟩;have hz:j<((ae.ts l).zip xp).length:=by rw[List.length_zip,ae.cz];omega
    have:((ae.ts l).zip xp)[j]=(l[j].t,xp[j]):=by rw[List.getElem_zip,ae.gW l j hjl]
    rw[← this];exact List.getElem_mem hz)
   have ND:=ł (λ(x:World) (hx:Grow wr.drew x)=>(HX.out.row.2.2.2.1.later (Mv.trans (Mv.drew bf.out) hx (λ_ e=>e.elim))).at' hjl);have NF:=ł (λ(x:World) (hx:Grow wr.drew x)=>(Td.out.later (Mv.trans (Mv.drew bS.out) hx (λ_ e=>e.elim))).at' hjp);have Vn:=ł (λ(x:World) (hx:Grow wr.drew x)=>ai (show(wr.drew).heap[w.heap.size]? = _ from ai EX.out (Mv.drew bS.out)) hx);have iD:=ł (λ(x:World) (hx:Grow wr.drew x)=>ai (show(wr.drew).heap[w.heap.size+1]? = _ from ai pO.out (Mv.drew bS.out)) hx);have sS:=ł (λ(x:World) (hx:Grow wr.drew x)=>ai (show(wr.drew).heap[w2.heap.size]? = _ from ai q8.out (Mv.drew bS.out)) hx);have mD:=ł (λ(x:World) (hx:Grow wr.drew x)=>HF.out.later (Mv.trans (Mv.drew bf.out) hx (λ_ e=>e.elim)));have bM:=HX.out.row.2.2.2.2 l[j] (List.getElem_mem hjl);generalize l[j]=y at HT dV ND bM hcc;generalize xp[j]=vd at HT dV NF hcp;obtain⟨yk,yn,ys,mE,yl⟩:=y;obtain⟨vn,vk,vl⟩:=vd;simp only[ae.t,Tree.name]at HT dV;generalize hbv:(au f ys vk).isSome=bv at *;have HBV:=ł hbv;clear hcc hcp bM hbv;go_wp2_with fail;refine De (by kernel_rfl) 44 [some 28,some 29,some 30,some 31,some 32,some 33,some 34,some 35,some 36,some 37,some 38,some 39,some 40,some 41,some 42] [[],[],[1],[],[2,3],[4],[5],[],[7],[],[8,9],[10],[11],[0,6,12],[13]] [[],[],[1],[],[2,3],[4],[5],[],[7],[],[8,9],[10],[11],[0,6,12],[13]] [[0],[1],[2],[3],[4],[5],[6],[7],[8],[9],[10],[11],[12],[13],[14]] [] rfl (by kernel_rfl) (Mv (λ_=>False)) (Mv.refl (λ_=>False)) (λx y z h1 h2=>Mv.trans h1 h2 (λ_ e=>e.elim)) (YC [some (.agg #[.slice fa f.slots.length fc,.int .i64 f.cells,.int .i64 f.stacks,.slice ga procs.length gc]),some (.pointer (some ⟨w.heap.size+1,3,none⟩)),some (.slice (some ⟨kb,ko,none⟩) l.length cap),some (.int .i64 j),some (.pointer (some ⟨kb,ko+j * 4,none⟩)),some (.pointer (some ⟨kb,ko+j * 4+2,none⟩)),some (.string ys),some (.pointer (some ⟨w2.heap.size,1,none⟩)),some (.slice (some ⟨pb,po,none⟩) xp.length xc),some (.int .i64 j),some (.pointer (some ⟨pb,po+j * 3,none⟩)),some (.pointer (some ⟨pb,po+j * 3+1,none⟩)),some (.int .u8 vk),some (.bool bv),some (.bool (!bv))] 99 (λ_ _=>True)) ?steps ?done
   case steps =>
    refine⟨?s0,?s1,?s2,?s3,?s4,?s5,?s6,?s7,?s8,?s9,?s10,?s11,?s12,?s13,?s14,trivial⟩
    case s0 =>
     intro vs x hx hY;obtain⟨⟨u0,u1⟩,u2,u3⟩:=aC (Vn.out x hx);clear hY;simp only[zR];go_simp;exact⟨(Mv.refl (λ_=>False)) x,iO (by decide) rfl rfl,by intros;assumption⟩
    case s1|s3|s7|s9 =>
     intro vs x hx hY;clear hY;simp only[zR];go_simp;exact⟨(Mv.refl (λ_=>False)) x,iO (by decide) rfl rfl,by intros;assumption⟩
    case s2 =>
     intro vs x hx hY;have h1:vs 1 = .pointer (some ⟨w.heap.size+1,3,none⟩):=dm (hY 1 (by simp) (by simp)) (by decide) rfl;obtain⟨⟨u0,u1⟩,u2,u3⟩:=aC (iD.out x hx);clear hY;simp only[zR,h1];go_simp;exact⟨(Mv.refl (λ_=>False)) x,iO (by decide) rfl rfl,by intros;assumption⟩
    case s4 =>
     intro vs x hx hY;have h2:vs 2 = .slice (some ⟨kb,ko,none⟩) l.length cap:=dm (hY 2 (by simp) (by simp)) (by decide) rfl;have h3:vs 3 = .int .i64 j:=dm (hY 3 (by simp) (by simp)) (by decide) rfl;clear hY;simp only[zR,h2,h3];go_simp;exact⟨(Mv.refl (λ_=>False)) x,iO (by decide) rfl rfl,by intros;assumption⟩
    case s5 =>
     intro vs x hx hY;have h4:vs 4 = .pointer (some ⟨kb,ko+j * 4,none⟩):=dm (hY 4 (by simp) (by simp)) (by decide) rfl;clear hY;simp only[zR,h4];go_simp;exact⟨(Mv.refl (λ_=>False)) x,iO (by decide) rfl rfl,by intros;assumption⟩
    case s6 =>
     intro vs x hx hY;have h5:vs 5 = .pointer (some ⟨kb,ko+j * 4+2,none⟩):=dm (hY 5 (by simp) (by simp)) (by decide) rfl;have u2:=ND.out x hx 2 _ rfl;clear hY;simp only[zR,h5];go_simp;exact⟨(Mv.refl (λ_=>False)) x,iO (by decide) rfl rfl,by intros;assumption⟩
    case s8 =>
     intro vs x hx hY;have h7:vs 7 = .pointer (some ⟨w2.heap.size,1,none⟩):=dm (hY 7 (by simp) (by simp)) (by decide) rfl;obtain⟨⟨u0,u1,u2⟩,u3,u4,u5⟩:=yz (sS.out x hx);clear hY;simp only[zR,h7];go_simp;exact⟨(Mv.refl (λ_=>False)) x,iO (by decide) rfl rfl,by intros;assumption⟩
    case s10 =>
     intro vs x hx hY;have h8:vs 8 = .slice (some ⟨pb,po,none⟩) xp.length xc:=dm (hY 8 (by simp) (by simp)) (by decide) rfl;have h9:vs 9 = .int .i64 j:=dm (hY 9 (by simp) (by simp)) (by decide) rfl;clear hY;simp only[zR,h8,h9];go_simp;exact⟨(Mv.refl (λ_=>False)) x,iO (by decide) rfl rfl,by intros;assumption⟩
    case s11 =>
     intro vs x hx hY;have h10:vs 10 = .pointer (some ⟨pb,po+j * 3,none⟩):=dm (hY 10 (by simp) (by simp)) (by decide) rfl;clear hY;simp only[zR,h10];go_simp;exact⟨(Mv.refl (λ_=>False)) x,iO (by decide) rfl rfl,by intros;assumption⟩
    case s12 =>
     intro vs x hx hY;have h11:vs 11 = .pointer (some ⟨pb,po+j * 3+1,none⟩):=dm (hY 11 (by simp) (by simp)) (by decide) rfl;have u1:=NF.out x hx 1 _ rfl;clear hY;simp only[zR,h11];go_simp;exact⟨(Mv.refl (λ_=>False)) x,iO (by decide) rfl rfl,by intros;assumption⟩
    case s13 =>
     intro vs x hx hY;have h0:vs 0 = .agg #[.slice fa f.slots.length fc,.int .i64 f.cells,.int .i64 f.stacks,.slice ga procs.length gc]:=dm (hY 0 (by simp) (by simp)) (by decide) rfl;have h6:vs 6 = .string ys:=dm (hY 6 (by simp) (by simp)) (by decide) rfl;have h12:vs 12 = .int .u8 vk:=dm (hY 12 (by simp) (by simp)) (by decide) rfl;have HC:=ł (RA (.slice fa f.slots.length fc) (.slice ga procs.length gc) f ys vk x (mD.out x hx) ga procs.length gc rfl);rw[HBV.out]at HC;clear hY;simp only[zR,h0,h6,h12];go_simp;refine HC.out.mono ?_;rintro e y ⟨rfl,hg⟩;exact⟨_,rfl,hg,iO (by decide) rfl rfl,by intros;exact aal (λ_ h=>h) _ _ (by assumption)⟩
    case s14 =>
     intro vs x hx hY;have lu:vs 13 = .bool bv:=dm (hY 13 (by simp) (by simp)) (by decide) rfl;clear hY;simp only[zR,lu];go_simp;exact⟨(Mv.refl (λ_=>False)) x,iO (by decide) rfl rfl,by intros;assumption⟩
   case done =>
   intro vs wx hx hY;simp only[List.length_cons,List.length_nil,Nat.zero_add,Nat.reduceAdd];rw[show List.range 15=[0,1,2,3,4,5,6,7,8,9,10,11,12,13,14]from rfl];have h0:vs 0 = .agg #[.slice fa f.slots.length fc,.int .i64 f.cells,.int .i64 f.stacks,.slice ga procs.length gc]:=dm (hY 0 (by decide) rfl) (by decide) rfl;have h1:vs 1 = .pointer (some ⟨w.heap.size+1,3,none⟩):=dm (hY 1 (by decide) rfl) (by decide) rfl;have h2:vs 2 = .slice (some ⟨kb,ko,none⟩) l.length cap:=dm (hY 2 (by decide) rfl) (by decide) rfl;have h3:vs 3 = .int .i64 j:=dm (hY 3 (by decide) rfl) (by decide) rfl;have h4:vs 4 = .pointer (some ⟨kb,ko+j * 4,none⟩):=dm (hY 4 (by decide) rfl) (by decide) rfl;have h5:vs 5 = .pointer (some ⟨kb,ko+j * 4+2,none⟩):=dm (hY 5 (by decide) rfl) (by decide) rfl;have h6:vs 6 = .string ys:=dm (hY 6 (by decide) rfl) (by decide) rfl;have h7:vs 7 = .pointer (some ⟨w2.heap.size,1,none⟩):=dm (hY 7 (by decide) rfl) (by decide) rfl;have h8:vs 8 = .slice (some ⟨pb,po,none⟩) xp.length xc:=dm (hY 8 (by decide) rfl) (by decide) rfl;have h9:vs 9 = .int .i64 j:=dm (hY 9 (by decide) rfl) (by decide) rfl;have h10:vs 10 = .pointer (some ⟨pb,po+j * 3,none⟩):=dm (hY 10 (by decide) rfl) (by decide) rfl;have h11:vs 11 = .pointer (some ⟨pb,po+j * 3+1,none⟩):=dm (hY 11 (by decide) rfl) (by decide) rfl;have h12:vs 12 = .int .u8 vk:=dm (hY 12 (by decide) rfl) (by decide) rfl;have lu:vs 13 = .bool bv:=dm (hY 13 (by decide) rfl) (by decide) rfl;have lC:vs 14 = .bool (!bv):=dm (hY 14 (by decide) rfl) (by decide) rfl;simp only[zR,h0,h1,h2,h3,h4,h5,h6,h7,h8,h9,h10,h11,h12,lu,lC];clear hY h0 h1 h2 h3 h4 h5 h6 h7 h8 h9 h10 h11 h12 lu lC;have vX:=ł (Mv.trans (Mv.drew bf.out) hx (λ_ e=>e.elim));have abt:=ł (Mv.trans (Mv.drew bS.out) hx (λ_ e=>e.elim));clear hx ND NF Vn iD sS mD;cases bv with
   |true =>
    have HT2:=ł (HT.out rfl);go_wp2_with fail
    go_roundw
    case rel=>exact⟨j+1,by go_num,by omega,HT2.out,abt.out⟩
    case measure=>simp[intOf];omega
   |false =>
    have HR:=ł (dV.out rfl);go_wp2_with fail;go_ret;exact⟨aK HR.out.symm,vX.out⟩
 obtain rfl:j=m:=by omega
 have HR:=ł (show vM f (procs.map ak.d) s (ae.ts l)=true from by
  rw[EW.out];refine List.all_eq_true.2 λx hx => ?_;obtain⟨i,hi,rfl⟩:=List.mem_iff_getElem.1 hx;have hi2:=hi;rw[List.length_zip,ae.cz]at hi2;rw[List.getElem_zip];have h1:i<l.length:=by omega
  rw[ae.gW l i h1];exact dE.out i h1 (by omega) (by rcases xK.out with h|h <;> omega))
 go_wp2_with fail;go_ret;exact⟨aK HR.out.symm,bf.out⟩
end
end Go.Proofs.YtnobahchcongnaaGreatDoor
