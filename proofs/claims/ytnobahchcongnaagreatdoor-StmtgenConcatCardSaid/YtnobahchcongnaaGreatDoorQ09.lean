import Derived.Test.YtnobahchcongnaaGreatDoorQ08
set_option linter.unusedSimpArgs false
set_option linter.unusedVariables false
set_option maxRecDepth 100000
set_option maxHeartbeats 25600000
namespace Go.Proofs.YtnobahchcongnaaGreatDoor
section
open Go.RowKit Go.Instr
structure az where
 slots:List dF
 cells:Int
 stacks:Int
abbrev dF.val (s:dF):Value := .agg #[.string s.name,.int .u8 s.kind,.int .i64 s.len,.int .i64 s.at']
structure fF (w:World) (sv:Value) (f:az):Prop where
 row:ax 4 dF.cells w sv f.slots
theorem fF.later {w w':World} {sv:Value} {f:az} (h:fF w sv f) (hm:Grow w w'):fF w' sv f:=⟨h.row.later hm⟩
def jF (name:ByteArray) (kind:Int) (s:dF):Bool:=s.name == name && s.kind == kind
def au (f:az) (name:ByteArray) (kind:Int):Option dF:=f.slots.find? (jF name kind)
def noSlot:dF:=⟨⟨#[]⟩,0,0,0⟩
def Bv (f:az) (name:ByteArray) (kind:Int):Int:=match f.slots.findIdx? (jF name kind) with
 | some i=>i
 | none => -1
theorem ML (f:az) (name:ByteArray) (kind:Int) (j:Nat) (hj:j<f.slots.length) (h:jF name kind f.slots[j]=true) (hn:∀ i (hi:i<f.slots.length),i<j→jF name kind f.slots[i]=false):Bv f name kind=j∧au f name kind=some f.slots[j]:=by
 have h1:f.slots.findIdx? (jF name kind)=some j:=by
  rw [List.findIdx?_eq_some_iff_getElem];exact ⟨hj,h,fun i hi=>by simp [hn i (by omega) hi]⟩
 refine ⟨by unfold Bv;rw [h1],?_⟩;unfold au;rw [List.find?_eq_some_iff_getElem];exact ⟨h,j,hj,rfl,fun i hi=>by simp [hn i (by omega) hi]⟩
theorem Mr (f:az) (name:ByteArray) (kind:Int) (hn:∀ i (hi:i<f.slots.length),jF name kind f.slots[i]=false):Bv f name kind = -1∧au f name kind=none:=by
 have hall:∀ x∈f.slots,jF name kind x=false:=fun x hx=>by
  obtain ⟨i,hi,rfl⟩:=List.mem_iff_getElem.1 hx;exact hn i hi
 refine ⟨by unfold Bv;rw [List.findIdx?_eq_none_iff.2 hall],List.find?_eq_none.2 fun x hx=>by simp [hall x hx]⟩
theorem BN (a b:ByteArray):(a.toList == b.toList)=(a == b):=by
 by_cases h:a=b
 · subst h;simp
 · have h2:(a == b)=false:=by simpa using h
   rw [h2];rw [beq_eq_false_iff_ne];intro e;exact h (by
    cases a with | mk x=>cases b with | mk y =>
    rw [ByteArray.toList_eq,ByteArray.toList_eq] at e;simp at e;rw [e])
theorem Vw (s:dF) (name:ByteArray) (kind:Int) (p q:Nat) (w:World) (tn tk:TypeId) (hp:w.heap[p]? = some (.cells #[.string name] tn (0,0))) (hq:w.heap[q]? = some (.cells #[.int .u8 kind] tk (0,0))) :
 Calls Tryz.prog 69 #[s.val,.pointer (some ⟨p,0,none⟩),.pointer (some ⟨q,0,none⟩)] w (jN w (jF name kind s)):=by
 obtain ⟨sn,sk,sl,sa⟩:=s;have hp0:w.cell? ⟨p,0,none⟩=some (.string name):=by simp [World.cell?,hp]
 have hq0:w.cell? ⟨q,0,none⟩=some (.int .u8 kind):=by simp [World.cell?,hq]
 have hpl:=lt_of_block hp;have pV:=lt_of_block hq;have HG:=ł (show Grow w (w.alloc (.cells #[.string sn,.int .u8 sk,.int .i64 sl,.int .i64 sa] 95)) from (Mv.refl _ _).alloc _);have hbb:=BN sn name;clear hp hq;by_cases h1:(sn == name)=true
 · rw [h1] at hbb;have HR:=ł (show jF name kind ⟨sn,sk,sl,sa⟩=(sk == kind) from by simp [jF,h1])
   go_enter Tryz.func69,Tryz.ntmps69
   go_wp2_with fail;go_ret;exact ⟨aD HR.out.symm,HG.out⟩
 · have h2:(sn == name)=false:=by simpa using h1
   rw [h2] at hbb;have HR:=ł (show jF name kind ⟨sn,sk,sl,sa⟩=false from by simp [jF,h2]);clear h1
   go_enter Tryz.func69,Tryz.ntmps69
   go_wp2_with fail;go_ret;exact ⟨aD HR.out.symm,HG.out⟩
theorem U2 (sv:Value) (f:az) (name:ByteArray) (kind:Int) (p q:Nat) (w:World) (tn tk:TypeId) (hf:fF w sv f) (hp:w.heap[p]? = some (.cells #[.string name] tn (0,0))) (hq:w.heap[q]? = some (.cells #[.int .u8 kind] tk (0,0))) :
 Calls Tryz.prog 68 #[sv,.func (.func 69) #[] #[.pointer (some ⟨p,0,none⟩),.pointer (some ⟨q,0,none⟩)]] w fun e w'=>e = .returned (.int .i64 (Bv f name kind))∧Grow w w':=by
 obtain ⟨fa,fc,rfl,hfc,hfl⟩:=hf.row.form;have HF:=ł hf;have HP:=ł hp;have HQ:=ł hq;clear hf hp hq
 go_enter Tryz.func68,Tryz.ntmps68
 go_wp2_with fail
 go_loopw [8] (fun t wr=>∃ j:Nat,t = .int .i64 j∧j≤f.slots.length∧(∀ i (hi:i<f.slots.length),i<j→jF name kind f.slots[i]=false)∧Grow w wr) (fun t _=>f.slots.length - (intOf t).toNat)
 case atStart=>exact ⟨0,rfl,Nat.zero_le _,fun i _ h=>by omega,Mv.refl _ _⟩
 obtain ⟨j,rfl,hj,hno,hgr⟩:=hrel;have mM:=ł hno;have bV:=ł hgr;clear hno hgr;by_cases hlt:j<f.slots.length
 · obtain ⟨b,off,cap',e,_,hcc⟩:=(HF.out.row.later bV.out).at hlt;simp only [Value.slice.injEq,true_and] at e;obtain ⟨rfl,rfl⟩:=e;have c0:=hcc 0 _ rfl;have c1:=hcc 1 _ rfl;have c2:=hcc 2 _ rfl;have c3:=hcc 3 _ rfl;simp only [Nat.add_zero] at c0;have hbl:b<wr.heap.size:=World.block_lt_of_cell? wr _ c0;have HC:=ł (Vw f.slots[j] name kind p q wr tn tk (ai HP.out bV.out) (ai HQ.out bV.out));have AA:=ł (fun h=>ML f name kind j hlt h mM.out);have HST:=ł (show (jF name kind f.slots[j]=false→∀ i (hi:i<f.slots.length),i<j+1→jF name kind f.slots[i]=false) from fun h i hi hij=>by
    rcases Nat.lt_or_ge i j with h3 | h3
    · exact mM.out i hi h3
    · obtain rfl:i=j:=by omega
      exact h)
   generalize jF name kind f.slots[j]=bv at *;generalize f.slots[j]=x at HC AA c0 c1 c2 c3;obtain ⟨xn,xk,xl,xa⟩:=x;simp only at c0 c1 c2 c3 HC;clear hcc;go_wp2_with fail;refine HC.out.mono ?_;rintro e w2 ⟨rfl,hg2⟩;have HG2:=ł (Mv.trans bV.out hg2 (fun _ e=>e.elim));clear hg2;cases bv with
   | true =>
    have HR:=ł (AA.out rfl).1;go_wp2_with fail;go_ret;exact ⟨gT HR.out.symm,HG2.out⟩
   | false =>
    have aU:=ł (HST.out rfl);go_wp2_with fail
    go_roundw
    case rel=>exact ⟨j+1,by go_num,by omega,aU.out,HG2.out⟩
    case measure=>simp [intOf];omega
 obtain rfl:j=f.slots.length:=by omega
 have HR:=ł (Mr f name kind (fun i hi=>mM.out i hi hi)).1;go_wp2_with fail;go_ret;exact ⟨gT HR.out.symm,bV.out⟩
theorem qU {w:World} {X:Nat} {a b c d:Value} {t:TypeId} (h:w.heap[X]? = some (.cells #[a,b,c,d] t (0,0))) (p q r s:Value) :
 ((((w.setCell ⟨X,0,none⟩ p).setCell ⟨X,1,none⟩ q).setCell ⟨X,2,none⟩ r).setCell ⟨X,3,none⟩ s).heap[X]? = some (.cells #[p,q,r,s] t (0,0))∧Mv (fun b=>b=X) w ((((w.setCell ⟨X,0,none⟩ p).setCell ⟨X,1,none⟩ q).setCell ⟨X,2,none⟩ r).setCell ⟨X,3,none⟩ s):=by
 constructor
 · have h1:=block_setCell (p:=⟨X,0,none⟩) h rfl p;have h2:=block_setCell (p:=⟨X,1,none⟩) h1 rfl q;have h3:=block_setCell (p:=⟨X,2,none⟩) h2 rfl r;have h4:=block_setCell (p:=⟨X,3,none⟩) h3 rfl s
   simpa using h4
 · exact ((((Mv.refl (fun b=>b=X) w).setCell (p:=⟨X,0,none⟩) (.inl rfl) _).setCell (p:=⟨X,1,none⟩) (.inl rfl) _).setCell (p:=⟨X,2,none⟩) (.inl rfl) _).setCell (p:=⟨X,3,none⟩) (.inl rfl) _
theorem aJ {w:World} {X:Nat} {c:Array Value} {t:TypeId} (h:w.heap[X]? = some (.cells c t (0,0))) (i:Nat):w.frozen? ⟨X,i,none⟩=false:=by simp [World.frozen?,h]
theorem nX (sv:Value) (f:az) (name:ByteArray) (kind:Int) (w:World) (hf:fF w sv f) :
 Calls Tryz.prog 37 #[.agg #[sv,.int .i64 f.cells,.int .i64 f.stacks],.string name,.int .u8 kind] w fun e w'=>e = .returned (.tuple #[((au f name kind).getD noSlot).val,.bool (au f name kind).isSome])∧Grow w w':=by
 obtain ⟨fa,fc,rfl,hfc,hfl⟩:=hf.row.form;have HF:=ł hf;clear hf;have hg1:Grow w ((((w.alloc (.cells #[.slice fa f.slots.length fc,.int .i64 f.cells,.int .i64 f.stacks] 27)).alloc (.cells #[.string name] 9)).alloc (.cells #[.int .u8 kind] 5)).alloc (.cells #[.string ⟨#[]⟩,.int .u8 0,.int .i64 0,.int .i64 0] 95)):=((((Mv.refl _ _).alloc _).alloc _).alloc _).alloc _;have hB:=aT (aT (aT (heap_alloc_new w (.cells #[.slice fa f.slots.length fc,.int .i64 f.cells,.int .i64 f.stacks] 27)) (.cells #[.string name] 9)) (.cells #[.int .u8 kind] 5)) (.cells #[.string ⟨#[]⟩,.int .u8 0,.int .i64 0,.int .i64 0] 95);have hN:=aT (aT (heap_alloc_new (w.alloc (.cells #[.slice fa f.slots.length fc,.int .i64 f.cells,.int .i64 f.stacks] 27)) (.cells #[.string name] 9)) (.cells #[.int .u8 kind] 5)) (.cells #[.string ⟨#[]⟩,.int .u8 0,.int .i64 0,.int .i64 0] 95);have hK:=aT (heap_alloc_new ((w.alloc (.cells #[.slice fa f.slots.length fc,.int .i64 f.cells,.int .i64 f.stacks] 27)).alloc (.cells #[.string name] 9)) (.cells #[.int .u8 kind] 5)) (.cells #[.string ⟨#[]⟩,.int .u8 0,.int .i64 0,.int .i64 0] 95);have hZ:=heap_alloc_new (((w.alloc (.cells #[.slice fa f.slots.length fc,.int .i64 f.cells,.int .i64 f.stacks] 27)).alloc (.cells #[.string name] 9)).alloc (.cells #[.int .u8 kind] 5)) (.cells #[.string ⟨#[]⟩,.int .u8 0,.int .i64 0,.int .i64 0] 95);simp only [World.size_alloc] at hN hK hZ;have bJ:=ł hg1;have HB:=ł hB;have HZ:=ł hZ;have nE:=ł (U2 (.slice fa f.slots.length fc) f name kind (w.heap.size+1) (w.heap.size+1+1) _ _ _ (HF.out.later hg1) hN hK);clear hg1 hB hN hK hZ
 go_enter Tryz.func37,Tryz.ntmps37
 go_wp2_with fail;generalize (((w.alloc (.cells #[.slice fa f.slots.length fc,.int .i64 f.cells,.int .i64 f.stacks] 27)).alloc (.cells #[.string name] 9)).alloc (.cells #[.int .u8 kind] 5)).alloc (.cells #[.string ⟨#[]⟩,.int .u8 0,.int .i64 0,.int .i64 0] 95)=w1 at *;refine nE.out.mono ?_;rintro e w2 ⟨rfl,hg2⟩;have hB2:=ai HB.out hg2;have hZ2:=ai HZ.out hg2;have HG2:=ł (Mv.trans bJ.out hg2 (fun _ e=>e.elim));have HZ2:=ł hZ2;have b0:w2.cell? ⟨w.heap.size,0,none⟩=some (.slice fa f.slots.length fc):=by simp [World.cell?,hB2]
 have hlb:=lt_of_block hB2;have hlz:=lt_of_block hZ2;obtain ⟨z0,z1,z2,z3⟩:=dm hZ2;have zt:=aJ hZ2;clear hg2 hB2 hZ2 nE;by_cases hex:∃ j,∃ hj:j<f.slots.length,jF name kind f.slots[j]=true∧∀ i (hi:i<f.slots.length),i<j→jF name kind f.slots[i]=false
 · obtain ⟨j,hj,hhit,hno⟩:=hex;obtain ⟨hix,hfs⟩:=ML f name kind j hj hhit hno;have yY:=ł hfs;rw [hix];obtain ⟨b,off,cap',e,_,hcc⟩:=(HF.out.row.later HG2.out).at hj;simp only [Value.slice.injEq,true_and] at e;obtain ⟨rfl,rfl⟩:=e;have c0:=hcc 0 _ rfl;have c1:=hcc 1 _ rfl;have c2:=hcc 2 _ rfl;have c3:=hcc 3 _ rfl;simp only [Nat.add_zero] at c0;have hbl:b<w2.heap.size:=World.block_lt_of_cell? w2 _ c0;have hj0:¬ ((j:Int)<0):=by omega
   generalize f.slots[j]=x at yY c0 c1 c2 c3;obtain ⟨xn,xk,xl,xa⟩:=x;simp only at c0 c1 c2 c3;obtain ⟨hY,hmv⟩:=qU HZ2.out (.string xn) (.int .u8 xk) (.int .i64 xl) (.int .i64 xa);have HY:=ł hY;have mO:=ł hmv;clear hcc hhit hno hix hfs hY hmv;go_wp2_with fail;obtain ⟨k0,k1,k2,k3⟩:=dm HY.out;refine bodyPost_ret (v := .tuple #[.agg #[.string xn,.int .u8 xk,.int .i64 xl,.int .i64 xa],.bool true]) ?_ rfl ⟨by rw [yY.out];rfl,HG2.out.trans mO.out (fun x e => .inr (by omega))⟩;simp [results,Tryz.results37,go_sem,k0,k1,k2,k3]
 · have hno:∀ i (hi:i<f.slots.length),jF name kind f.slots[i]=false:=by
    intro i
    induction i using Nat.strongRecOn with
    | ind i ih =>
     intro hi;cases hb:jF name kind f.slots[i] with
     | false=>rfl
     | true=>exact absurd ⟨i,hi,hb,fun k hk hki=>ih k hki hk⟩ hex
   obtain ⟨hix,hfs⟩:=Mr f name kind hno;have yY:=ł hfs;rw [hix];obtain ⟨hY,hmv⟩:=qU HZ2.out (.string ⟨#[]⟩) (.int .u8 0) (.int .i64 0) (.int .i64 0);have HY:=ł hY;have mO:=ł hmv;clear hno hix hfs hex hY hmv;go_wp2_with fail;obtain ⟨k0,k1,k2,k3⟩:=dm HY.out;refine bodyPost_ret (v := .tuple #[.agg #[.string ⟨#[]⟩,.int .u8 0,.int .i64 0,.int .i64 0],.bool false]) ?_ rfl ⟨by rw [yY.out];rfl,HG2.out.trans mO.out (fun x e => .inr (by omega))⟩;simp [results,Tryz.results37,go_sem,k0,k1,k2,k3]
structure cB where
 name:ByteArray
 params:List bq
 body:Tree
structure aj where
 name:ByteArray
 params:List bq
 pv:Value
 body:ae
def aj.d (p:aj):cB:=⟨p.name,p.params,p.body.t⟩
def aj.cells (p:aj):List Value := .string p.name :: p.pv :: p.body.cells
def aj.val:aj→Value
 | ⟨s,_,pv,.mk k n bs kv _⟩ => .agg #[.string s,pv,.int .u8 k,.int .i64 n,.string bs,kv]
structure vg (w:World) (p:aj):Prop where
 name:p.name.size≤9223372036854775807
 params:ax 3 bq.cells w p.pv p.params
 body:aV w p.body
theorem vg.later {w w':World} {p:aj} (h:vg w p) (hm:Grow w w'):vg w' p:=⟨h.name,h.params.later hm,h.body.later hm⟩
structure lQ (w:World) (v:Value) (l:List aj):Prop where
 row:ax 6 aj.cells w v l
 each:∀ p∈l,vg w p
theorem lQ.later {w w':World} {v:Value} {l:List aj} (h:lQ w v l) (hm:Grow w w'):lQ w' v l:=⟨h.row.later hm,fun p hp=>(h.each p hp).later hm⟩
def fZ:aj:=⟨⟨#[]⟩,[],.slice none 0 0,.mk 0 0 ⟨#[]⟩ (.slice none 0 0) []⟩
def eP (l:List aj) (s:ByteArray):Option aj:=l.find? (fun p=>p.name == s)
theorem UJ (l:List aj) (s:ByteArray) (j:Nat) (hj:j<l.length) (h:(l[j].name == s)=true) (hn:∀ i (hi:i<l.length),i<j→(l[i].name == s)=false):eP l s=some l[j]:=by
 unfold eP;rw [List.find?_eq_some_iff_getElem];exact ⟨h,j,hj,rfl,fun i hi=>by simp [hn i (by omega) hi]⟩
theorem UA (l:List aj) (s:ByteArray) (hn:∀ i (hi:i<l.length),(l[i].name == s)=false):eP l s=none:=by
 refine List.find?_eq_none.2 fun x hx => ?_;obtain ⟨i,hi,rfl⟩:=List.mem_iff_getElem.1 hx;simp [hn i hi]
theorem Ww (w:World):vg w fZ:=⟨by simp [fZ,ByteArray.size],ax.nil _ _ _,.mk (by decide) (by simp [In64]) (by simp [ByteArray.size]) (ax.nil _ _ _) (by simp)⟩
theorem He {w:World} {v:Value} {l:List aj} (h:lQ w v l) (s:ByteArray):vg w ((eP l s).getD fZ):=by
 cases hf:eP l s with
 | none=>exact Ww w
 | some p=>exact h.each p (List.mem_of_find?_eq_some hf)
theorem vg.form {w:World} {n:ByteArray} {p:List bq} {pv:Value} {b:ae} (h:vg w ⟨n,p,pv,b⟩):∃ a c,pv = .slice a p.length c∧p.length≤c∧p.length≤9223372036854775807:=h.params.form
theorem JE {w:World} {X:Nat} {a0 a1 a2 a3 a4 a5:Value} {t:TypeId} (h:w.heap[X]? = some (.cells #[a0,a1,a2,a3,a4,a5] t (0,0))) (b0 b1 b2 b3 b4 b5:Value) :
 ((((((w.setCell ⟨X,0,none⟩ b0).setCell ⟨X,1,none⟩ b1).setCell ⟨X,2,none⟩ b2).setCell ⟨X,3,none⟩ b3).setCell ⟨X,4,none⟩ b4).setCell ⟨X,5,none⟩ b5).heap[X]? = some (.cells #[b0,b1,b2,b3,b4,b5] t (0,0)) ∧
 Mv (fun b=>b=X) w ((((((w.setCell ⟨X,0,none⟩ b0).setCell ⟨X,1,none⟩ b1).setCell ⟨X,2,none⟩ b2).setCell ⟨X,3,none⟩ b3).setCell ⟨X,4,none⟩ b4).setCell ⟨X,5,none⟩ b5):=by
 constructor
 · have h1:=block_setCell (p:=⟨X,0,none⟩) h rfl b0;have h2:=block_setCell (p:=⟨X,1,none⟩) h1 rfl b1;have h3:=block_setCell (p:=⟨X,2,none⟩) h2 rfl b2;have h4:=block_setCell (p:=⟨X,3,none⟩) h3 rfl b3;have h5:=block_setCell (p:=⟨X,4,none⟩) h4 rfl b4;have h6:=block_setCell (p:=⟨X,5,none⟩) h5 rfl b5
   simpa using h6
 · exact ((((((Mv.refl (fun b=>b=X) w).setCell (p:=⟨X,0,none⟩) (.inl rfl) _).setCell (p:=⟨X,1,none⟩) (.inl rfl) _).setCell (p:=⟨X,2,none⟩) (.inl rfl) _).setCell (p:=⟨X,3,none⟩) (.inl rfl) _).setCell (p:=⟨X,4,none⟩) (.inl rfl) _).setCell (p:=⟨X,5,none⟩) (.inl rfl) _
theorem wO {w:World} {X:Nat} {c0 c1 c2 c3 c4 c5:Value} {t:TypeId} (h:w.heap[X]? = some (.cells #[c0,c1,c2,c3,c4,c5] t (0,0))):(w.cell? ⟨X,0,none⟩=some c0∧w.cell? ⟨X,1,none⟩=some c1∧w.cell? ⟨X,2,none⟩=some c2)∧w.cell? ⟨X,3,none⟩=some c3∧w.cell? ⟨X,4,none⟩=some c4∧w.cell? ⟨X,5,none⟩=some c5:=by
 simp [World.cell?,h]
theorem Ii (v:Value) (l:List aj) (s:ByteArray) (w:World) (hp:lQ w v l) :
 Calls Tryz.prog 99 #[v,.string s] w fun e w'=>e = .returned (.tuple #[((eP l s).getD fZ).val,.bool (eP l s).isSome])∧Grow w w':=by
 obtain ⟨pa,pc,rfl,hpc,hpl⟩:=hp.row.form;have HP:=ł hp;clear hp;have bJ:=ł (show Grow w (w.alloc (.cells #[.string ⟨#[]⟩,.slice none 0 0,.int .u8 0,.int .i64 0,.string ⟨#[]⟩,.slice none 0 0] 60)) from (Mv.refl _ _).alloc _);have HZ:=ł (heap_alloc_new w (.cells #[.string ⟨#[]⟩,.slice none 0 0,.int .u8 0,.int .i64 0,.string ⟨#[]⟩,.slice none 0 0] 60))
 go_enter Tryz.func99,Tryz.ntmps99
 go_wp2_with fail;generalize w.alloc (.cells #[.string ⟨#[]⟩,.slice none 0 0,.int .u8 0,.int .i64 0,.string ⟨#[]⟩,.slice none 0 0] 60)=w1 at *
 go_loopw [10] (fun t wr=>∃ j:Nat,t = .int .i64 j∧j≤l.length∧(∀ i (hi:i<l.length),i<j→(l[i].name == s)=false)∧Grow w1 wr) (fun t _=>l.length - (intOf t).toNat)
 case atStart=>exact ⟨0,rfl,Nat.zero_le _,fun i _ h=>by omega,Mv.refl _ _⟩
 obtain ⟨j,rfl,hj,hno,hgr⟩:=hrel;have mM:=ł hno;have bV:=ł hgr;have aQ:=ł (Mv.trans bJ.out hgr (fun _ e=>e.elim));have hZ:=ai HZ.out hgr;have Sk:=ł hZ;have hlz:=lt_of_block hZ;obtain ⟨⟨z0,z1,z2⟩,z3,z4,z5⟩:=wO hZ;have zt:=aJ hZ;clear hno hgr hZ;by_cases hlt:j<l.length
 · obtain ⟨b,off,cap',e,_,hcc⟩:=(HP.out.row.later aQ.out).at hlt;simp only [Value.slice.injEq,true_and] at e;obtain ⟨rfl,rfl⟩:=e;have hxo:=HP.out.each l[j] (List.getElem_mem hlt);have AA:=ł (fun h=>UJ l s j hlt h mM.out);have HST:=ł (show ((l[j].name == s)=false→∀ i (hi:i<l.length),i<j+1→(l[i].name == s)=false) from fun h i hi hij=>by
    rcases Nat.lt_or_ge i j with h3 | h3
    · exact mM.out i hi h3
    · obtain rfl:i=j:=by omega
      exact h)
   generalize l[j]=x at AA HST hxo hcc;obtain ⟨xn,xp,Sl,xb⟩:=x;obtain ⟨xa,xc,rfl,-,-⟩:=hxo.form;have sN:=hxo.body;obtain ⟨bk,bn,bs,Gc,bl⟩:=xb;simp only at sN;obtain ⟨ba,bc,rfl,-,-⟩:=sN.form;have c0:=hcc 0 _ rfl;have c1:=hcc 1 _ rfl;have c2:=hcc 2 _ rfl;have c3:=hcc 3 _ rfl;have c4:=hcc 4 _ rfl;have c5:=hcc 5 _ rfl;simp only [Nat.add_zero] at c0;simp only at AA HST;have hbl:b<wr.heap.size:=World.block_lt_of_cell? wr _ c0;have hbb:=BN xn s;generalize hbv:(xn == s)=bv at *;have aA:=ł (bV.out.alloc (.cells #[.string xn,.slice xa xp.length xc,.int .u8 bk,.int .i64 bn,.string bs,.slice ba bl.length bc] 60));clear hcc hxo sN hbv;cases bv with
   | true =>
    have HR:=ł (AA.out rfl);obtain ⟨hY,hmv⟩:=JE Sk.out (.string xn) (.slice xa xp.length xc) (.int .u8 bk) (.int .i64 bn) (.string bs) (.slice ba bl.length bc);have HY:=ł (aT hY (.cells #[.string xn,.slice xa xp.length xc,.int .u8 bk,.int .i64 bn,.string bs,.slice ba bl.length bc] 60));have mO:=ł (aQ.out.trans hmv (fun x e => .inr (by omega)));clear hY hmv;go_wp2_with fail;obtain ⟨⟨k0,k1,k2⟩,k3,k4,k5⟩:=wO HY.out;refine bodyPost_ret (v := .tuple #[.agg #[.string xn,.slice xa xp.length xc,.int .u8 bk,.int .i64 bn,.string bs,.slice ba bl.length bc],.bool true]) ?_ rfl ⟨by rw [HR.out];rfl,mO.out.alloc _⟩;simp [results,Tryz.results99,go_sem,k0,k1,k2,k3,k4,k5]
   | false =>
    have aU:=ł (HST.out rfl);go_wp2_with fail
    go_roundw
    case rel=>exact ⟨j+1,by go_num,by omega,aU.out,aA.out⟩
    case measure=>simp [intOf];omega
 obtain rfl:j=l.length:=by omega
 have HR:=ł (UA l s (fun i hi=>mM.out i hi hi));obtain ⟨hY,hmv⟩:=JE Sk.out (.string ⟨#[]⟩) (.slice none 0 0) (.int .u8 0) (.int .i64 0) (.string ⟨#[]⟩) (.slice none 0 0);have HY:=ł hY;have mO:=ł (aQ.out.trans hmv (fun x e => .inr (by omega)));clear hY hmv;go_wp2_with fail;obtain ⟨⟨k0,k1,k2⟩,k3,k4,k5⟩:=wO HY.out;refine bodyPost_ret (v := .tuple #[.agg #[.string ⟨#[]⟩,.slice none 0 0,.int .u8 0,.int .i64 0,.string ⟨#[]⟩,.slice none 0 0],.bool false]) ?_ rfl ⟨by rw [HR.out];rfl,mO.out⟩;simp [results,Tryz.results99,go_sem,k0,k1,k2,k3,k4,k5]
theorem uW (sv pv:Value) (f:az) (name:ByteArray) (kind:Int) (w:World) (hf:fF w sv f) (pa:Option Addr) (pn pc:Nat) (hpv:pv = .slice pa pn pc) :
 Calls Tryz.prog 97 #[.agg #[sv,.int .i64 f.cells,.int .i64 f.stacks,pv],.string name,.int .u8 kind] w (jN w (au f name kind).isSome):=by
 subst hpv;obtain ⟨fa,fc,rfl,hfc,hfl⟩:=hf.row.form;have HG:=ł (show Grow w (w.alloc (.cells #[.slice fa f.slots.length fc,.int .i64 f.cells,.int .i64 f.stacks,.slice pa pn pc] 62)) from (Mv.refl _ _).alloc _);have HF:=ł (nX (.slice fa f.slots.length fc) f name kind (w.alloc (.cells #[.slice fa f.slots.length fc,.int .i64 f.cells,.int .i64 f.stacks,.slice pa pn pc] 62)) (hf.later HG.out));clear hf
 go_enter Tryz.func97,Tryz.ntmps97
 go_wp2_with fail;refine HF.out.mono ?_;rintro e w2 ⟨rfl,hg2⟩;have HG2:=ł (Mv.trans HG.out hg2 (fun _ e=>e.elim));clear hg2 HF;generalize (au f name kind).getD noSlot=sl at *;obtain ⟨s0,s1,s2,s3⟩:=sl;simp only;go_wp2_with fail;go_ret;exact ⟨rfl,HG2.out.alloc _⟩
end
section
def YC (cs:List (Option Value)) (k:Nat) (P:List Value→World→Prop):Nat→List Value→World→Prop:=fun j l w=>if j=k then P l w else match cs.getD j none with
 | some c=>l=[c]
 | none=>True
theorem dx {cs:List (Option Value)} {k j:Nat} {P:List Value→World→Prop} {v c:Value} {x:World} (h:YC cs k P j [v] x) (hj:j≠k) (hc:cs.getD j none=some c):v=c:=by
 unfold YC at h;rw [if_neg hj,hc] at h
 simpa using h
theorem gW {cs:List (Option Value)} {k j:Nat} {P:List Value→World→Prop} {v c:Value} {x:World} (hj:j≠k) (hc:cs.getD j none=some c) (hv:v=c):YC cs k P j [v] x:=by
 unfold YC;rw [if_neg hj,hc,hv]
theorem Px {cs:List (Option Value)} {k:Nat} {P:List Value→World→Prop} {l:List Value} {x:World} (h:P l x):YC cs k P k l x:=by
 unfold YC;rw [if_pos rfl];exact h
theorem Py {cs:List (Option Value)} {k:Nat} {P:List Value→World→Prop} {l:List Value} {x:World} (h:YC cs k P k l x):P l x:=by
 unfold YC at h;rw [if_pos rfl] at h;exact h
theorem Yo {cs:List (Option Value)} {k:Nat} {P:List Value→World→Prop} {x y:World} (hP:∀ l,P l x→P l y) (j:Nat) (l:List Value) (h:YC cs k P j l x):YC cs k P j l y:=by
 unfold YC at h ⊢;split
 · rename_i hj;rw [if_pos hj] at h;exact hP l h
 · rename_i hj;rw [if_neg hj] at h;exact h
theorem EN {cs:List (Option Value)} {k:Nat} {P:List Value→World→Prop} {x y:World} (j:Nat) (l:List Value) (hj:j≠k) (h:YC cs k P j l x):YC cs k P j l y:=by
 unfold YC at h ⊢;rw [if_neg hj] at h ⊢;exact h
end
end Go.Proofs.YtnobahchcongnaaGreatDoor
