import Derived.Test.YtnobahchcongnaaGreatDoorQ19
set_option linter.unusedSimpArgs false
set_option linter.unusedVariables false
set_option maxRecDepth 100000
set_option maxHeartbeats 25600000
namespace Go.Proofs.YtnobahchcongnaaGreatDoor
open Go.RowKit Go.Instr
theorem OL (f:az) (n p:Int) (s:ByteArray) (l:List Tree):gX f (.mk 1 n s l) p=[⟨6,1,n,0,0⟩,⟨12,1,0,0,0⟩]:=by rw [gX];rfl
theorem OM (f:az) (n p:Int) (s:ByteArray) (l:List Tree):gX f (.mk 2 n s l) p=[⟨10,1,((au f s 1).getD noSlot).at',0,0⟩,⟨3,2,1,0,0⟩,⟨10,1,((au f s 1).getD noSlot).at',0,0⟩,⟨12,2,0,0,0⟩]:=by rw [gX];rfl
theorem OO (f:az) (n p:Int) (s:ByteArray) (l:List Tree):gX f (.mk 3 n s l) p=(iX f l p).getD 0 [] ++ [⟨13,1,0,0,0⟩,⟨11,2,1,((au f s 2).getD noSlot).at',((au f s 2).getD noSlot).len⟩,⟨3,3,2,0,0⟩,⟨11,2,1,((au f s 2).getD noSlot).at',((au f s 2).getD noSlot).len⟩,⟨12,1,0,0,0⟩,⟨12,3,0,0,0⟩]:=by rw [gX];rfl
theorem Og (f:az) (k n p:Int) (s:ByteArray) (l:List Tree) (hk:k=4∨k=5):gX f (.mk k n s l) p=[⟨if k=5 then 15 else 14,1,((au f s 3).getD noSlot).at',0,0⟩,⟨12,1,0,0,0⟩]:=by
 rw [gX];rcases hk with rfl | rfl <;> rfl
theorem Oh (f:az) (k n p:Int) (s:ByteArray) (l:List Tree) (hk:k=6∨k=7):gX f (.mk k n s l) p=(iX f l p).getD 0 [] ++ [⟨13,1,0,0,0⟩] ++ (if k=6 then [⟨3,3,1,0,0⟩,⟨8,3,0,0,0⟩] else [⟨9,3,1,2,16⟩]) ++ [⟨12,1,0,0,0⟩,⟨12,3,0,0,0⟩]:=by
 rw [gX];rcases hk with rfl | rfl <;> rfl
theorem OP (f:az) (k n p:Int) (s:ByteArray) (l:List Tree) (hk:8≤k):gX f (.mk k n s l) p=(iX f l p).getD 0 [] ++ [⟨13,1,0,0,0⟩,⟨10,1,f.cells+p,0,0⟩] ++ (iX f l p).getD 1 [] ++ [⟨13,2,0,0,0⟩,⟨10,1,f.cells+p,0,0⟩,⟨9,3,1,2,k⟩,⟨12,1,0,0,0⟩,⟨12,2,0,0,0⟩,⟨12,3,0,0,0⟩]:=by
 rw [gX,if_neg (by omega),if_neg (by omega),if_neg (by omega),if_neg (by omega),if_neg (by omega),if_neg (by omega)]
theorem Mt {k n:Int} {s:ByteArray} {l:List Tree} (h:aI (.mk k n s l)=true):k=1∨k=2∨(k=3∧l.length=1)∨(k=4∨k=5)∨((k=6∨k=7)∧l.length=1)∨((8≤k∧k≤23)∧l.length=2):=by
 rw [aI] at h;split at h
 · exact .inl ‹_›
 · split at h
   · rename_i h2;rcases h2 with e | e | e
     · exact .inr (.inl e)
     · exact .inr (.inr (.inr (.inl (.inl e))))
     · exact .inr (.inr (.inr (.inl (.inr e))))
   · split at h
     · rename_i h3;simp at h;exact .inr (.inr (.inl ⟨h3,h.2.1⟩))
     · split at h
       · rename_i h4;simp at h;exact .inr (.inr (.inr (.inr (.inl ⟨h4,h.2.1⟩))))
       · split at h
         · rename_i h5;simp at h;exact .inr (.inr (.inr (.inr (.inr ⟨h5,h.2.1⟩))))
         · cases h
theorem Bh {k n:Int} {s:ByteArray} {l:List Tree} (h:aI (.mk k n s l)=true) (hk:k=3∨k=6∨k=7∨(8≤k∧k≤23)):∀ t∈l,aI t=true:=by
 have ha:iV l=true:=by
  rw [aI,if_neg (by omega),if_neg (by omega)] at h;split at h
  · simp at h;exact h.2.2
  · split at h
    · simp at h;exact h.2.2
    · split at h
      · simp at h;exact h.2.2
      · cases h
 rw [Vu] at ha;exact List.all_eq_true.1 ha
def IJ (w0:World) (C:Nat) (sv:Value) (f:az) (m:Nat):Prop:=∀ (x:ae),SizeOf.sizeOf x≤m→aI x.t=true→aV w0 x→∀ (p:Int) (w:World) (cv:Value) (code:List Ins),0≤p→p+gV x.t≤100000→code.length+(gX f x.t p).length≤900000→bB w0 C sv f w cv code →
 Calls Tryz.prog 72 #[.pointer (some ⟨C,0,none⟩),x.val,.int .i64 p] w (wX w0 C sv f w cv code (gX f x.t p))
theorem WG (w0:World) (C:Nat) (sv:Value) (f:az) (hf:fF w0 sv f) (hc0:0≤f.cells) (hc1:f.cells≤100000) (m:Nat) (ih:IJ w0 C sv f m):IJ w0 C sv f (m+1):=by
 intro x hm he hx p w cv code hp0 hpd hlen hst;obtain ⟨k,n,s,kv,l⟩:=x;have hform:=hx.form;have hsub:∀ (i:Nat) (hi:i<l.length),SizeOf.sizeOf l[i]≤m:=fun i hi=>by
  have:=nV (k:=k) (n:=n) (s:=s) (kv:=kv) (List.getElem_mem hi);omega
 have hat:∀ (i:Nat) (hi:i<l.length),aV w0 l[i]:=fun i hi=>hx.row.2.2.2.2 _ (List.getElem_mem hi);have gF:∀ (i:Nat) (hi:i<l.length),gV l[i].t+1≤gV (ae.t (.mk k n s kv l)):=fun i hi=>by
  have h:=Ij (ae.ts l) i (by rw [ae.cZ];exact hi);rw [ae.gK l i hi] at h;simp only [ae.t,gV];omega
 have hcode:∀ (i:Nat) (hi:i<l.length),(iX f (ae.ts l) p).getD i []=gX f l[i].t (p+i):=fun i hi=>by
  rw [zT f _ p i (by rw [ae.cZ];exact hi),ae.gK l i hi]
 have hel:∀ (i:Nat) (hi:i<l.length),(k=3∨k=6∨k=7∨(8≤k∧k≤23))→aI l[i].t=true:=fun i hi hk=>by
  simp only [ae.t] at he;exact Bh he hk _ (by rw [← ae.gK l i hi];exact List.getElem_mem _)
 simp only [ae.t] at he hlen hpd gF ⊢;have hkind:=Mt he;rw [ae.cZ] at hkind;clear he;rcases hkind with rfl | rfl | ⟨rfl,hl⟩ | hk | ⟨hk,hl⟩ | ⟨⟨KG,Qi⟩,hl⟩
 · rw [OL] at hlen ⊢;simp only [List.length_cons,List.length_nil] at hlen;clear hsub hat gF hcode hel;obtain ⟨ka,kc,rfl,-,-⟩:=hform;simp only [ae.val];have hga:Grow w (w.alloc (.cells #[.int .u8 1,.int .i64 n,.string s,.slice ka l.length kc] 24)):=(Mv.refl _ _).alloc _;have fM:=ł (hst.grow hga);have dR:=ł (df.grow (C:=C) (cv:=cv) hga);clear hga;clear hst hf hx ih
   go_enter Tryz.func72,Tryz.ntmps72
   go_upto_region 3 with fail;have hln:w.heap.size<(w.alloc (.cells #[.int .u8 1,.int .i64 n,.string s,.slice ka l.length kc] 24)).heap.size:=by simp
   obtain ⟨⟨n0,n1⟩,n2,n3⟩:=aF (heap_alloc_new w (.cells #[.int .u8 1,.int .i64 n,.string s,.slice ka l.length kc] 24));generalize w.alloc (.cells #[.int .u8 1,.int .i64 n,.string s,.slice ka l.length kc] 24)=w1 at *;have bG:=fM;have HT1:=dR;go_wp2_with fail;refine (gy 6 1 n w1.heap.size _ _ (heap_alloc_new w1 _)).mono ?_;rintro e nI ⟨rfl,hg⟩;simp only;have hg0:Grow w1 nI:=Mv.trans ((Mv.refl _ w1).alloc _) hg (fun _ e=>e.elim);clear hg;go_wp2_with fail;refine (gy 12 1 0 nI.heap.size _ _ (heap_alloc_new nI _)).mono ?_;rintro e Gl ⟨rfl,hg⟩;simp only;have hg1:Grow nI Gl:=Mv.trans ((Mv.refl _ nI).alloc _) hg (fun _ e=>e.elim);clear hg;have hgz:Grow w1 (Gl.alloc (.cells #[.int .u8 6,.int .i64 1,.int .i64 n,.int .i64 0,.int .i64 0,.int .u8 12,.int .i64 1,.int .i64 0,.int .i64 0,.int .i64 0] 57)):=(Mv.trans hg0 hg1 (fun _ e=>e.elim)).alloc _;have dS:=ł (lH w0 C sv f _ cv code (.slice (some ⟨Gl.heap.size,0,none⟩) 2 2) ([⟨6,1,n,0,0⟩,⟨12,1,0,0,0⟩]:List Ins) (bG.out.grow hgz) (ax.bH (f:=Ins.cells) (l:=([⟨6,1,n,0,0⟩,⟨12,1,0,0,0⟩]:List Ins)) (fun _=>rfl) (heap_alloc_new Gl _) rfl (by simp)) (by simp;omega));have iy:=ł (HT1.out.trans (df.grow hgz));clear hgz hg0 hg1;go_wp2_with fail;refine dS.out.mono ?_;rintro e u2 ⟨rfl,q2,hs,ht⟩;have HS2:=ł hs;have HT2:=ł (iy.out.trans ht);clear hs ht dS iy bG HT1;go_wp2_with fail
   go_end0
   exact ⟨rfl,_,HS2.out,HT2.out⟩
 · rw [OM] at hlen ⊢;simp only [List.length_cons,List.length_nil] at hlen;clear hsub hat gF hcode hel;obtain ⟨ka,kc,rfl,-,-⟩:=hform;simp only [ae.val];have hga:Grow w (w.alloc (.cells #[.int .u8 2,.int .i64 n,.string s,.slice ka l.length kc] 24)):=(Mv.refl _ _).alloc _;have fM:=ł (hst.grow hga);have dR:=ł (df.grow (C:=C) (cv:=cv) hga);clear hga;have HC:=ł (UL w0 C sv f _ cv code 2 n s (.slice ka l.length kc) l fM.out hf hx (by omega));clear hst hf hx ih
   go_enter Tryz.func72,Tryz.ntmps72
   go_wp2_with fail;refine HC.out.mono ?_;rintro e u1 ⟨rfl,q1,hs,ht⟩;have bG:=ł hs;have HT1:=ł (dR.out.trans ht);clear hs ht HC fM dR;go_wp2_with fail
   go_end0
   exact ⟨rfl,_,bG.out,HT1.out⟩
 · have h0:0<l.length:=by omega
   rw [OO,hcode 0 h0] at hlen ⊢;simp only [Int.natCast_zero,Int.add_zero,List.length_append,List.length_cons,List.length_nil] at hlen ⊢;have hd:=gF 0 h0;have HI:=ł (fun (w':World) (cv':Value) (h:bB w0 C sv f w' cv' code)=>ih l[0] (hsub 0 h0) (hel 0 h0 (.inl rfl)) (hat 0 h0) p w' cv' code hp0 (by omega) (by omega) h);clear hsub hat gF hcode hel hd hl;obtain ⟨ka,kc,rfl,-,-⟩:=hform;simp only [ae.val];have hga:Grow w (w.alloc (.cells #[.int .u8 3,.int .i64 n,.string s,.slice ka l.length kc] 24)):=(Mv.refl _ _).alloc _;have fM:=ł (hst.grow hga);have dR:=ł (df.grow (C:=C) (cv:=cv) hga);clear hga;have HC:=ł (Xo w0 C sv f _ cv code _ 3 n p s (.slice ka l.length kc) l fM.out hf hx (by omega) h0 HI.out);clear hst hf hx ih
   go_enter Tryz.func72,Tryz.ntmps72
   go_wp2_with fail;refine HC.out.mono ?_;rintro e u1 ⟨rfl,q1,hs,ht⟩;have bG:=ł hs;have HT1:=ł (dR.out.trans ht);clear hs ht HC fM dR;go_wp2_with fail
   go_end0
   exact ⟨rfl,_,bG.out,HT1.out⟩
 · rw [Og f k n p s _ hk] at hlen ⊢;simp only [List.length_cons,List.length_nil] at hlen;clear hsub hat gF hcode hel;obtain ⟨ka,kc,rfl,-,-⟩:=hform;simp only [ae.val];rcases hk with rfl | rfl
   ·
     have hga:Grow w (w.alloc (.cells #[.int .u8 4,.int .i64 n,.string s,.slice ka l.length kc] 24)):=(Mv.refl _ _).alloc _;have fM:=ł (hst.grow hga);have dR:=ł (df.grow (C:=C) (cv:=cv) hga);clear hga;have HC:=ł (MM w0 C sv f _ cv code 4 n s (.slice ka l.length kc) l fM.out hf hx (by omega) (.inl rfl));clear hst hf hx ih
     go_enter Tryz.func72,Tryz.ntmps72
     go_wp2_with fail;refine HC.out.mono ?_;rintro e u1 ⟨rfl,q1,hs,ht⟩;have bG:=ł hs;have HT1:=ł (dR.out.trans ht);clear hs ht HC fM dR;go_wp2_with fail
     go_end0
     exact ⟨rfl,_,bG.out,HT1.out⟩
   ·
     have hga:Grow w (w.alloc (.cells #[.int .u8 5,.int .i64 n,.string s,.slice ka l.length kc] 24)):=(Mv.refl _ _).alloc _;have fM:=ł (hst.grow hga);have dR:=ł (df.grow (C:=C) (cv:=cv) hga);clear hga;have HC:=ł (MM w0 C sv f _ cv code 5 n s (.slice ka l.length kc) l fM.out hf hx (by omega) (.inr rfl));clear hst hf hx ih
     go_enter Tryz.func72,Tryz.ntmps72
     go_wp2_with fail;refine HC.out.mono ?_;rintro e u1 ⟨rfl,q1,hs,ht⟩;have bG:=ł hs;have HT1:=ł (dR.out.trans ht);clear hs ht HC fM dR;go_wp2_with fail
     go_end0
     exact ⟨rfl,_,bG.out,HT1.out⟩
 · have h0:0<l.length:=by omega
   rw [Oh f k n p s _ hk,hcode 0 h0] at hlen ⊢;simp only [Int.natCast_zero,Int.add_zero,List.length_append,List.length_cons,List.length_nil] at hlen ⊢;have hd:=gF 0 h0;have HI:=ł (fun (w':World) (cv':Value) (_:List Ins) (h:bB w0 C sv f w' cv' code)=>ih l[0] (hsub 0 h0) (hel 0 h0 (by omega)) (hat 0 h0) p w' cv' code hp0 (by omega) (by omega) h);clear hsub hat gF hcode hel hd hl;obtain ⟨ka,kc,rfl,-,-⟩:=hform;simp only [ae.val];rcases hk with rfl | rfl
   ·
     have hga:Grow w (w.alloc (.cells #[.int .u8 6,.int .i64 n,.string s,.slice ka l.length kc] 24)):=(Mv.refl _ _).alloc _;have fM:=ł (hst.grow hga);have dR:=ł (df.grow (C:=C) (cv:=cv) hga);clear hga;have HC:=ł (Np w0 C sv f _ cv code _ 6 n p s (.slice ka l.length kc) l fM.out hf hx (by omega) (.inl rfl) h0 HI.out);clear hst hf hx ih
     go_enter Tryz.func72,Tryz.ntmps72
     go_wp2_with fail;refine HC.out.mono ?_;rintro e u1 ⟨rfl,q1,hs,ht⟩;have bG:=ł hs;have HT1:=ł (dR.out.trans ht);clear hs ht HC fM dR;go_wp2_with fail
     go_end0
     exact ⟨rfl,_,by have:=bG.out;simpa using this,HT1.out⟩
   ·
     have hga:Grow w (w.alloc (.cells #[.int .u8 7,.int .i64 n,.string s,.slice ka l.length kc] 24)):=(Mv.refl _ _).alloc _;have fM:=ł (hst.grow hga);have dR:=ł (df.grow (C:=C) (cv:=cv) hga);clear hga;have HC:=ł (Np w0 C sv f _ cv code _ 7 n p s (.slice ka l.length kc) l fM.out hf hx (by omega) (.inr rfl) h0 HI.out);clear hst hf hx ih
     go_enter Tryz.func72,Tryz.ntmps72
     go_wp2_with fail;refine HC.out.mono ?_;rintro e u1 ⟨rfl,q1,hs,ht⟩;have bG:=ł hs;have HT1:=ł (dR.out.trans ht);clear hs ht HC fM dR;go_wp2_with fail
     go_end0
     exact ⟨rfl,_,by have:=bG.out;simpa using this,HT1.out⟩
 · have h0:0<l.length:=by omega
   have h1:1<l.length:=by omega
   rw [OP f k n p s _ KG,hcode 0 h0,hcode 1 h1,show ((1:Nat):Int)=1 from rfl] at hlen ⊢;simp only [Int.natCast_zero,Int.add_zero,List.length_append,List.length_cons,List.length_nil] at hlen ⊢;have hd0:=gF 0 h0;have hd1:=gF 1 h1;have HI0:=ł (fun (w':World) (cv':Value) (h:bB w0 C sv f w' cv' code)=>ih l[0] (hsub 0 h0) (hel 0 h0 (by omega)) (hat 0 h0) p w' cv' code hp0 (by omega) (by omega) h);have HI1:=ł (fun (w':World) (cv':Value) (h:bB w0 C sv f w' cv' (code ++ gX f l[0].t p ++ [⟨13,1,0,0,0⟩,⟨10,1,f.cells+p,0,0⟩]))=>ih l[1] (hsub 1 h1) (hel 1 h1 (by omega)) (hat 1 h1) (p+1) w' cv' _ (by omega) (by omega) (by simp;omega) h);have xI:=ł hlen;clear hsub hat gF hcode hel hd0 hd1 hl;obtain ⟨ka,kc,rfl,-,-⟩:=hform;simp only [ae.val];generalize gX f l[0].t p=A at *;generalize gX f l[1].t (p+1)=B at *;have hga:Grow w (w.alloc (.cells #[.int .u8 k,.int .i64 n,.string s,.slice ka l.length kc] 24)):=(Mv.refl _ _).alloc _;have fM:=ł (hst.grow hga);have dR:=ł (df.grow (C:=C) (cv:=cv) hga);clear hga;have HC:=ł (VE w0 C sv f _ cv code A B k n p s (.slice ka l.length kc) l fM.out hf hx (by omega) h0 h1 KG Qi hp0 (by omega) hc0 hc1 HI0.out HI1.out);clear hst hf hx ih;have e1:(k == 1)=false:=by simp;omega
   have e2:(k == 2)=false:=by simp;omega
   have e3:(k == 3)=false:=by simp;omega
   have e4:(k == 4)=false:=by simp;omega
   have e5:(k == 5)=false:=by simp;omega
   have e6:(k == 6)=false:=by simp;omega
   have e7:(k == 7)=false:=by simp;omega
   go_enter Tryz.func72,Tryz.ntmps72
   go_wp2_with fail;refine HC.out.mono ?_;rintro e u1 ⟨rfl,q1,hs,ht⟩;have bG:=ł hs;have HT1:=ł (dR.out.trans ht);clear hs ht HC fM dR;go_wp2_with fail
   go_end0
   exact ⟨rfl,_,bG.out,HT1.out⟩
theorem Oi (w0:World) (C:Nat) (sv:Value) (f:az) (hf:fF w0 sv f) (hc0:0≤f.cells) (hc1:f.cells≤100000):∀ m:Nat,IJ w0 C sv f m
 | 0=>fun x hm=>by cases x;simp at hm
 | m+1=>WG w0 C sv f hf hc0 hc1 m (Oi w0 C sv f hf hc0 hc1 m)
theorem cell1 {w:World} {X:Nat} {a:Value} {t:TypeId} {z:Nat × Nat} (h:w.heap[X]? = some (.cells #[a] t z)):w.cell? ⟨X,0,none⟩=some a:=by simp [World.cell?,h]
theorem aB {w:World} {X:Nat} {a b:Value} {t:TypeId} {z:Nat × Nat} (h:w.heap[X]? = some (.cells #[a,b] t z)):w.cell? ⟨X,0,none⟩=some a∧w.cell? ⟨X,1,none⟩=some b:=by simp [World.cell?,h]
theorem cK {w:World} {X:Nat} {a b c:Value} {t:TypeId} {z:Nat × Nat} (h:w.heap[X]? = some (.cells #[a,b,c] t z)):w.cell? ⟨X,0,none⟩=some a∧w.cell? ⟨X,1,none⟩=some b∧w.cell? ⟨X,2,none⟩=some c:=by simp [World.cell?,h]
theorem set1 {w:World} {X:Nat} {a:Value} {t:TypeId} (h:w.heap[X]? = some (.cells #[a] t (0,0))) (p:Value) :
 (w.setCell ⟨X,0,none⟩ p).heap[X]? = some (.cells #[p] t (0,0))∧Mv (fun b=>b=X) w (w.setCell ⟨X,0,none⟩ p) :=
 ⟨by have h1:=block_setCell (p:=⟨X,0,none⟩) h rfl p;simpa using h1,(Mv.refl (fun b=>b=X) w).setCell (.inl rfl) _⟩
theorem set2 {w:World} {X:Nat} {a b:Value} {t:TypeId} (h:w.heap[X]? = some (.cells #[a,b] t (0,0))) (p q:Value) :
 ((w.setCell ⟨X,0,none⟩ p).setCell ⟨X,1,none⟩ q).heap[X]? = some (.cells #[p,q] t (0,0))∧Mv (fun b=>b=X) w ((w.setCell ⟨X,0,none⟩ p).setCell ⟨X,1,none⟩ q) :=
 ⟨by
  have h1:=block_setCell (p:=⟨X,0,none⟩) h rfl p;have h2:=block_setCell (p:=⟨X,1,none⟩) h1 rfl q
  simpa using h2,((Mv.refl (fun b=>b=X) w).setCell (.inl rfl) _).setCell (.inl rfl) _⟩
theorem JI {w:World} {X:Nat} {a b c:Value} {t:TypeId} (h:w.heap[X]? = some (.cells #[a,b,c] t (0,0))) (p q r:Value) :
 (((w.setCell ⟨X,0,none⟩ p).setCell ⟨X,1,none⟩ q).setCell ⟨X,2,none⟩ r).heap[X]? = some (.cells #[p,q,r] t (0,0))∧Mv (fun b=>b=X) w (((w.setCell ⟨X,0,none⟩ p).setCell ⟨X,1,none⟩ q).setCell ⟨X,2,none⟩ r) :=
 ⟨by
  have h1:=block_setCell (p:=⟨X,0,none⟩) h rfl p;have h2:=block_setCell (p:=⟨X,1,none⟩) h1 rfl q;have h3:=block_setCell (p:=⟨X,2,none⟩) h2 rfl r
  simpa using h3,(((Mv.refl (fun b=>b=X) w).setCell (.inl rfl) _).setCell (.inl rfl) _).setCell (.inl rfl) _⟩
def ay (w:World) (v:Value) (p:aC):Prop:=∃ ca cc ra rc,v = .agg #[.slice ca p.code.length cc,.slice ra p.refs.length rc]∧ax 5 Ins.cells w (.slice ca p.code.length cc) p.code∧ax 2 bD.cells w (.slice ra p.refs.length rc) p.refs
theorem ay.mk {w:World} {cv rv:Value} {p:aC} (h1:ax 5 Ins.cells w cv p.code) (h2:ax 2 bD.cells w rv p.refs):ay w (.agg #[cv,rv]) p:=by
 obtain ⟨ca,cc,rfl,-,-⟩:=h1.form;obtain ⟨ra,rc,rfl,-,-⟩:=h2.form;exact ⟨ca,cc,ra,rc,rfl,h1,h2⟩
theorem ay.later {w w':World} {v:Value} {p:aC} (h:ay w v p) (hm:Grow w w'):ay w' v p:=by
 obtain ⟨ca,cc,ra,rc,hv,h1,h2⟩:=h;exact ⟨ca,cc,ra,rc,hv,h1.later hm,h2.later hm⟩
def qI (p:Value × Value):List Value:=[p.1,p.2]
def gG (w:World) (v:Value) (l:List aC):Prop:=∃ vs:List (Value × Value),vs.length=l.length∧ax 2 qI w v vs∧∀ i (h:i<vs.length) (h':i<l.length),ay w (.agg #[vs[i].1,vs[i].2]) l[i]
theorem gG.later {w w':World} {v:Value} {l:List aC} (h:gG w v l) (hm:Grow w w'):gG w' v l:=by
 obtain ⟨vs,h1,h2,h3⟩:=h;exact ⟨vs,h1,h2.later hm,fun i hi hi'=>(h3 i hi hi').later hm⟩
theorem gG.form {w:World} {v:Value} {l:List aC} (h:gG w v l):∃ a c,v = .slice a l.length c∧l.length≤c∧l.length≤9223372036854775807:=by
 obtain ⟨vs,h1,h2,h3⟩:=h;obtain ⟨a,c,e,h4,h5⟩:=h2.form;exact ⟨a,c,by rw [← h1];exact e,by omega,by omega⟩
def bN (w:World) (p:aC) (e:Ending) (w':World):Prop:=∃ v,e = .returned v∧ay w' v p∧Grow w w'
def oQ (base:Nat) (w:World) (v:Value) (p:aC):Prop:=∃ ca cc ra rc,v = .agg #[.slice ca p.code.length cc,.slice ra p.refs.length rc]∧dZ w base (.slice ca p.code.length cc) p.code∧ax 2 bD.cells w (.slice ra p.refs.length rc) p.refs
theorem oQ.at {base:Nat} {w:World} {v:Value} {p:aC} (h:oQ base w v p):ay w v p:=by
 obtain ⟨ca,cc,ra,rc,hv,h1,h2⟩:=h;exact ⟨ca,cc,ra,rc,hv,gP (fun _=>rfl) h1,h2⟩
theorem oQ.later {base:Nat} {w w':World} {v:Value} {p:aC} (h:oQ base w v p) (hm:Grow w w'):oQ base w' v p:=by
 obtain ⟨ca,cc,ra,rc,hv,h1,h2⟩:=h;exact ⟨ca,cc,ra,rc,hv,bQ h1 hm (fun _ _ e=>e),h2.later hm⟩
theorem ER {α:Type} {n:Nat} {f:α→List Value} {x y:World} {v:Value} {l:List α} {g:Nat} {a b:Option Addr × Nat × Nat} {t:TypeId} (h:ax n f x v l) (hf:∀ u,∃ c,(f u)[0]? = some c∧∀ a m k,c ≠ .slice a m k)
 (hb:x.heap[g]? = some (.cells #[.slice a.1 a.2.1 a.2.2,.slice b.1 b.2.1 b.2.2] t (0,0))) (hm:Mv (fun b=>b=g) x y):ax n f y v l:=by
 cases l with
 | nil =>
  obtain ⟨a,cap,e,h1,h2,_⟩:=h;exact ⟨a,cap,e,h1,h2,fun i x hx=>by simp at hx⟩
 | cons u l =>
  refine h.stay hm (fun q hq e => ?_);subst e;obtain ⟨b',off,cap,e,_,hc⟩:=h.at (i:=0) (by simp);rw [e] at hq;simp only [Value.ownBlock,Option.some.injEq] at hq;subst hq;obtain ⟨c,hc0,hns⟩:=hf u;have h0:=hc 0 c (by simpa using hc0);simp only [World.cell?,hb] at h0;rcases Nat.lt_or_ge (off+0 * n+0) 2 with h2 | h2
  · have:off+0 * n+0=0∨off+0 * n+0=1:=by omega
    rcases this with e0 | e0 <;> rw [e0] at h0 <;> simp at h0 <;> exact hns _ _ _ h0.symm
  · simp only [Array.getElem?_eq_none (show (#[Value.slice a.1 a.2.1 a.2.2,.slice b.1 b.2.1 b.2.2]:Array Value).size≤off+0 * n+0 from h2)] at h0;cases h0
def Zw:Array Value:=#[.slice none 0 0,.slice none 0 0]
theorem ay.box {x y:World} {v:Value} {p:aC} {g:Nat} {t:TypeId} (h:ay x v p) (hb:x.heap[g]? = some (.cells #[.slice none 0 0,.slice none 0 0] t (0,0))) (hm:Mv (fun b=>b=g) x y):ay y v p:=by
 obtain ⟨ca,cc,ra,rc,hv,h1,h2⟩:=h;exact ⟨ca,cc,ra,rc,hv,ER (a:=(none,0,0)) (b:=(none,0,0)) h1 (fun u=>⟨_,rfl,by simp⟩) hb hm,ER (a:=(none,0,0)) (b:=(none,0,0)) h2 (fun u=>⟨_,rfl,by simp⟩) hb hm⟩
theorem sP {Zs:List (Array Value × TypeId)} {b:Bool} {p:aC} (hz:∀ z∈Zs,z.1=Zw:=by intro z hz;simp [Kd.zero,Sp.k] at hz <;> (subst hz;rfl)):oO (fun v y=>ay y v p)∧(b=false→tX Zs (fun v y=>ay y v p)) :=
 ⟨fun v x y hg h=>h.later hg,fun _ z h g v x y hb hm h'=>ay.box h' (by rw [hz z h] at hb;exact hb) hm⟩
theorem sQ {Zs:List (Array Value × TypeId)} {b:Bool} {F U:Nat→Value} {l:List aC} (hb:b=true:=by rfl):oO (fun v y=>∃ g,v=F g∧gG y (U g) l)∧(b=false→tX Zs (fun v y=>∃ g,v=F g∧gG y (U g) l)):=⟨fun v x y hg h=>by obtain ⟨g,hv,hb⟩:=h;exact ⟨g,hv,hb.later hg⟩,fun h=>by rw [hb] at h;cases h⟩
structure gm (w:World) (G:Nat) (sv pv:Value) (f:az) (procs:List aj):Prop where
 blk:w.heap[G]? = some (.cells #[sv,.int .i64 f.cells,.int .i64 f.stacks,pv,.int .i64 0] 65 (0,0))
 fr:fF w sv f
 pr:lQ w pv procs
theorem gm.later {w w':World} {G:Nat} {sv pv:Value} {f:az} {procs:List aj} (h:gm w G sv pv f procs) (hm:Grow w w'):gm w' G sv pv f procs:=⟨ai h.blk hm,h.fr.later hm,h.pr.later hm⟩
theorem Bj {F:World→Prop} {a b:World} (h:∀ x,Grow a x→F x) (g:Grow a b):∀ x,Grow b x→F x:=fun x hx=>h x (Mv.trans g hx (fun _ e=>e.elim))
theorem ES {w:World} {base base':Nat} {v:Value} {l:List Ins} (h:dZ w base v l) (hb:base'≤base):dZ w base' v l:=by
 refine ⟨h.1,?_⟩;rcases h.2 with h2 | ⟨g,cap,cur,e,h3,h4⟩
 · exact .inl h2
 · exact .inr ⟨g,cap,cur,e,by omega,h4⟩
theorem gtr {a b c:World} (h:Grow a b) (k:Grow b c):Grow a c:=Mv.trans h k (fun _ e=>e.elim)
theorem Mw (x:ae) (sv:Value) (f:az) (w:World) (hf:fF w sv f) (hx:aV w x) (he:aI x.t=true) (hs:bM f x.t=true) (hc0:0≤f.cells) (hc1:f.cells≤1000) (hd:gV x.t≤10000) (hlen:(dC f x.t).length≤800000) :
 Calls Tryz.prog 38 #[x.val,.agg #[sv,.int .i64 f.cells,.int .i64 f.stacks]] w fun e w'=>∃ v',e = .returned (.tuple #[v',.int .i64 0])∧kV w w' v' (dC f x.t):=by
 obtain ⟨fa,fc,rfl,hfc,hfl⟩:=hf.row.form;obtain ⟨k,n,s,kv,l⟩:=x;obtain ⟨ka,kc,rfl,-,-⟩:=hx.form;have hg2:Grow w ((w.alloc (.cells #[.int .u8 k,.int .i64 n,.string s,.slice ka l.length kc] 24)).alloc (.cells #[.slice fa f.slots.length fc,.int .i64 f.cells,.int .i64 f.stacks] 27)):=((Mv.refl _ w).alloc _).alloc _;obtain ⟨aL,uJ,-⟩:=a2 w (.cells #[.int .u8 k,.int .i64 n,.string s,.slice ka l.length kc] 24) (.cells #[.slice fa f.slots.length fc,.int .i64 f.cells,.int .i64 f.stacks] 27);have HF:=ł hf;have HX:=ł hx;have jT:=ł hlen;have Gm:=ł (fun (y:World) (hy:Grow w y)=>(oM (.mk k n s (.slice ka l.length kc) l) y (HX.out.later hy)));have xL:=ł (fun (y:World) (hy:Grow w y)=>(Vy (.slice fa f.slots.length fc) f (.mk k n s (.slice ka l.length kc) l) y (HF.out.later hy) (HX.out.later hy)));have Qk:=ł (fun (y:World) (hy:Grow w y)=>(WA (.mk k n s (.slice ka l.length kc) l) y (HX.out.later hy) (by omega)));rw [he] at Gm;rw [hs] at xL;have lM:=ł he;have HG2:=ł hg2;clear hf hx hlen hg2 he hs;generalize hD:gV (ae.t (.mk k n s (.slice ka l.length kc) l))=D at *;have HDD:=ł hD;clear hD;simp only [ae.val] at Gm xL ⊢
 go_enter Tryz.func38,Tryz.ntmps38
 go_upto_region 1 with fail;have hsz2:w.heap.size+2=((w.alloc (.cells #[.int .u8 k,.int .i64 n,.string s,.slice ka l.length kc] 24)).alloc (.cells #[.slice fa f.slots.length fc,.int .i64 f.cells,.int .i64 f.stacks] 27)).heap.size:=by simp
 generalize (w.alloc (.cells #[.int .u8 k,.int .i64 n,.string s,.slice ka l.length kc] 24)).alloc (.cells #[.slice fa f.slots.length fc,.int .i64 f.cells,.int .i64 f.stacks] 27)=w2 at *;have HK:=ł (fun (y:World) (hy:Grow w2 y)=>And.intro (ai aL.out hy) (ai uJ.out hy));obtain ⟨⟨n0,n1⟩,n2,n3⟩:=aF aL.out;have hl1:=lt_of_block aL.out;go_wp2_with fail;refine (Gm.out _ HG2.out).mono ?_;rintro e w3 ⟨he,hg⟩;subst he;have aG:=ł (gtr HG2.out hg);have dI:=ł (Bj HK.out hg);obtain ⟨⟨m0,m1⟩,m2,m3⟩:=aF (HK.out _ hg).1;obtain ⟨f0,f1,f2⟩:=cK (HK.out _ hg).2;clear hg aL uJ n0 n1 n2 n3 hl1;go_wp2_with fail;refine (xL.out _ aG.out).mono ?_;rintro e w4 ⟨he,hg⟩;subst he;have aN:=ł (gtr aG.out hg);have bf:=ł (Bj dI.out hg);clear hg m0 m1 m2 m3 f0 f1 f2 hsz2;go_wp2_with fail;have CQ:=ł (fun (y:World) (hy:Grow w4 y)=>Qk.out y (gtr aN.out hy));refine wg 26 [some 14,some 15,some 16,some 17,some 18,some 19] [[],[0],[],[2],[3],[1,4]] [] [.c (.pointer (some ⟨w.heap.size+1,1,none⟩)),.c (.int .i64 f.cells),.c (ae.val (.mk k n s (.slice ka l.length kc) l)),.c (.int .i64 D),.c (.int .i64 (16384 - D)),.c (.bool false)] trivial (dJ rfl) ?steps ?done
 case steps =>
  refine ⟨?s0,?s1,?s2,?s3,?s4,?s5,trivial⟩
  case s0 =>
   refine oo (fun vs x hP => ?_);simp only [zS];go_simp;exact gc
  case s1 =>
   refine ok bf (fun vs x hG HX hP => ?_);obtain ⟨f0,f1,f2⟩:=cK HX.out.2;simp only [zS];go_simp;exact gc
  case s2 =>
   refine ok bf (fun vs x hG HX hP => ?_);obtain ⟨⟨n0,n1⟩,n2,n3⟩:=aF HX.out.1;simp only [zS];go_simp;exact gc
  case s3 =>
   refine ok bf (fun vs x hG HX hP => ?_);have h2:vs 2=_:=pq hP 2;have HC:=ł (CQ.out x hG);simp only [ae.val] at h2 HC;simp only [zS,h2];go_simp;refine (HC.out).mono ?_;rintro e y ⟨rfl,hg⟩;exact ⟨_,rfl,bz hg rfl⟩
  case s4 =>
   refine ok bf (fun vs x hG HX hP => ?_);have hw:IntKind.i64.wrap (16384 - (D:Int))=16384 - D:=IntWalk.i64_in _ (by omega);simp only [zS];go_simp;exact gc
  case s5 =>
   refine ok bf (fun vs x hG HX hP => ?_);have hlt:decide (16384 - D<f.cells)=false:=by simp;omega
   simp only [zS];go_simp;exact gc
 case done =>
 intro vs wx hE;have hG:=hE.grow;simp only [zS,Nat.reduceAdd];have aS:=ł (gtr aN.out hG);have bK:=ł (bf.out _ hG);obtain ⟨⟨m0,m1⟩,m2,m3⟩:=aF bK.out.1;obtain ⟨f0,f1,f2⟩:=cK bK.out.2;have hl1:=lt_of_block bK.out.1;have hl2:=lt_of_block bK.out.2;clear hE hG Gm xL Qk CQ HK dI bf;have HST:=ł (show bB wx wx.heap.size (.slice fa f.slots.length fc) f (wx.alloc (.cells #[.slice fa f.slots.length fc,.int .i64 f.cells,.int .i64 f.stacks,.slice none 0 0] 100)) (.slice none 0 0) [] from
  ⟨(Mv.refl _ wx).alloc _,heap_alloc_new wx _,World.ownsRow_nil _ _ _ _,Nat.le_refl _⟩)
 have HC:=ł (Oi wx wx.heap.size (.slice fa f.slots.length fc) f (HF.out.later aS.out) hc0 (by omega) _ (.mk k n s (.slice ka l.length kc) l) (Nat.le_refl _) lM.out (HX.out.later aS.out) 0 _ _ _ (by omega) (by rw [HDD.out];omega) (by have:=jT.out;simp only [dC] at this;simp;omega) HST.out);simp only [ae.val,List.nil_append] at HC;go_wp2_with fail;refine HC.out.mono ?_;rintro e w7 ⟨rfl,cv',hst,hto⟩;obtain ⟨⟨q0,q1⟩,q2,q3⟩:=aF hst.blk;have HR:=ł (show kV w w7 cv' (dC f (ae.t (.mk k n s (.slice ka l.length kc) l))) from ⟨gtr aS.out hst.g,ES (by have:=hst.row;simp only [List.nil_append] at this;exact this) aS.out.size⟩);have hl3:=lt_of_block hst.blk;clear hst hto HC HST;go_wp2_with fail
 go_ret2
 exact ⟨_,rfl,HR.out⟩
def jP (A us:List Ins):List Ins:=A ++ [⟨13,4,0,0,0⟩] ++ us ++ [⟨12,4,0,0,0⟩] ++ gJ A
theorem WH (f:az):∀ (m:Nat) (t:Tree),SizeOf.sizeOf t≤m→aI t=true→∀ p,∀ i∈gX f t p,0≤i.op∧i.op≤255:=by
 intro m
 induction m with
 | zero=>intro t h;cases t;simp at h
 | succ m ih =>
  intro t hm he p i hi;obtain ⟨k,n,s,l⟩:=t;have hk:=Mt he;have hsub:∀ (j:Nat) (hj:j<l.length),SizeOf.sizeOf l[j]≤m:=fun j hj=>by
   have h1:=List.sizeOf_lt_of_mem (List.getElem_mem hj);simp at hm;omega
  rcases hk with rfl | rfl | ⟨rfl,hl⟩ | hk | ⟨hk,hl⟩ | ⟨⟨h8,h23⟩,hl⟩
  · rw [OL] at hi;simp at hi;rcases hi with rfl | rfl <;> simp
  · rw [OM] at hi;simp at hi;rcases hi with rfl | rfl | rfl | rfl <;> simp
  · have h0:0<l.length:=by omega
    rw [OO,zT f l p 0 h0] at hi;rcases List.mem_append.1 hi with hi | hi
    · exact ih _ (hsub 0 h0) (Bh he (.inl rfl) _ (List.getElem_mem h0)) _ i hi
    · simp at hi;rcases hi with rfl | rfl | rfl | rfl | rfl | rfl <;> simp
  · rw [Og f k n p s l hk] at hi;simp at hi;rcases hi with rfl | rfl
    · simp only;split <;> simp
    · simp
  · have h0:0<l.length:=by omega
    rw [Oh f k n p s l hk,zT f l p 0 h0] at hi;simp only [List.mem_append] at hi;rcases hi with ((hi | hi) | hi) | hi
    · exact ih _ (hsub 0 h0) (Bh he (by omega) _ (List.getElem_mem h0)) _ i hi
    · simp at hi;subst hi;simp
    · split at hi
      · simp at hi;rcases hi with rfl | rfl <;> simp
      · simp at hi;subst hi;simp
    · simp at hi;rcases hi with rfl | rfl <;> simp
  · have h0:0<l.length:=by omega
    have h1:1<l.length:=by omega
    rw [OP f k n p s l h8,zT f l p 0 h0,zT f l p 1 h1] at hi;simp only [List.mem_append] at hi;rcases hi with ((hi | hi) | hi) | hi
    · exact ih _ (hsub 0 h0) (Bh he (by omega) _ (List.getElem_mem h0)) _ i hi
    · simp at hi;rcases hi with rfl | rfl <;> simp
    · exact ih _ (hsub 1 h1) (Bh he (by omega) _ (List.getElem_mem h1)) _ i hi
    · simp at hi;rcases hi with rfl | rfl | rfl | rfl | rfl | rfl <;> simp
theorem WI (f:az) (t:Tree) (h:aI t=true):∀ i∈dC f t,0≤i.op∧i.op≤255:=WH f _ t (Nat.le_refl _) h 0
theorem Nq (x:ae) (sv uv:Value) (f:az) (us:List Ins) (w:World) (hf:fF w sv f) (hx:aV w x) (hu:ax 5 Ins.cells w uv us) (he:aI x.t=true) (hs:bM f x.t=true) (hc0:0≤f.cells) (hc1:f.cells≤1000) (hd:gV x.t≤10000) (hlen:(dC f x.t).length≤300000) (jg:us.length≤300000) :
 Calls Tryz.prog 17 #[x.val,.agg #[sv,.int .i64 f.cells,.int .i64 f.stacks],uv] w fun e w'=>∃ v',e = .returned (.tuple #[v',.int .i64 0])∧kV w w' v' (jP (dC f x.t) us):=by
 obtain ⟨fa,fc,rfl,hfc,hfl⟩:=hf.row.form;obtain ⟨k,n,s,kv,l⟩:=x;obtain ⟨ka,kc,rfl,-,-⟩:=hx.form;obtain ⟨ua,uc,rfl,huc,hul⟩:=hu.form;have HCM:=ł (fun (y:World) (hy:Grow w y)=>Mw (.mk k n s (.slice ka l.length kc) l) (.slice fa f.slots.length fc) f y (hf.later hy) (hx.later hy) he hs hc0 hc1 hd (by omega));have HU:=ł hu;have xJ:=ł (WI f _ he);clear hf hx hu he hs hd;have hg2:Grow w ((w.alloc (.cells #[.int .u8 k,.int .i64 n,.string s,.slice ka l.length kc] 24)).alloc (.cells #[.slice fa f.slots.length fc,.int .i64 f.cells,.int .i64 f.stacks] 27)):=((Mv.refl _ w).alloc _).alloc _;have HG2:=ł hg2;clear hg2;generalize dC f (ae.t (.mk k n s (.slice ka l.length kc) l))=A at *;simp only [ae.val] at HCM ⊢
 go_enter Tryz.func17,Tryz.ntmps17
 go_wp2_with fail;generalize (w.alloc (.cells #[.int .u8 k,.int .i64 n,.string s,.slice ka l.length kc] 24)).alloc (.cells #[.slice fa f.slots.length fc,.int .i64 f.cells,.int .i64 f.stacks] 27)=w2 at *;refine (HCM.out _ HG2.out).mono ?_;rintro e wC ⟨cv,rfl,hcv⟩;obtain ⟨ca,cc,hcs⟩:=gz hcv.row;subst hcs;have HC:=ł hcv;have wh:=ł (gtr HG2.out hcv.g);have bG:=ł (show bB wC wC.heap.size (.slice none 0 0) gU (wC.alloc (.cells #[.slice none 0 0,.int .i64 0,.int .i64 0,.slice none 0 0] 100)) (.slice none 0 0) [] from
  ⟨(Mv.refl _ wC).alloc _,heap_alloc_new wC _,World.ownsRow_nil _ _ _ _,Nat.le_refl _⟩)
 have HT1:=ł (df.refl wC.heap.size (wC.alloc (.cells #[.slice none 0 0,.int .i64 0,.int .i64 0,.slice none 0 0] 100)) (.slice none 0 0));clear hcv HCM;have Sy:=ł (fun (y:World) (hy:Grow wC y)=>(gP (fun _=>rfl) HC.out.row:ax 5 Ins.cells wC (.slice ca A.length cc) A).later hy);have HRU:=ł (fun (y:World) (hy:Grow wC y)=>(HU.out.later wh.out).later hy);have dS:=ł (lH wC wC.heap.size (.slice none 0 0) gU _ (.slice none 0 0) [] (.slice ca A.length cc) A bG.out (Sy.out _ bG.out.g) (by first | omega | (simp;omega)));go_wp2_with fail;refine dS.out.mono ?_;rintro e u2 ⟨rfl,q2,hs,ht⟩;have HS2:=ł hs;have HT2:=ł (HT1.out.trans ht);clear hs ht dS bG HT1
 go_wp2_with fail;refine (gy 13 4 0 u2.heap.size _ _ (heap_alloc_new u2 _)).mono ?_;rintro e y20 ⟨rfl,hg⟩;simp only;have hg0:Grow u2 y20:=Mv.trans ((Mv.refl _ u2).alloc _) hg (fun _ e=>e.elim);clear hg;have hgz:Grow u2 (y20.alloc (.cells #[.int .u8 13,.int .i64 4,.int .i64 0,.int .i64 0,.int .i64 0] 57)):=hg0.alloc _;have dS:=ł (lH wC wC.heap.size (.slice none 0 0) gU _ q2 ([] ++ A) (.slice (some ⟨y20.heap.size,0,none⟩) 1 1) ([⟨13,4,0,0,0⟩]:List Ins) (HS2.out.grow hgz) (ax.bH (f:=Ins.cells) (l:=([⟨13,4,0,0,0⟩]:List Ins)) (fun _=>rfl) (heap_alloc_new y20 _) rfl (by simp)) (by simp;omega));have iy:=ł (HT2.out.trans (df.grow hgz));clear hgz hg0;go_wp2_with fail;refine dS.out.mono ?_;rintro e u3 ⟨rfl,q3,hs,ht⟩;have nJ:=ł hs;have HT3:=ł (iy.out.trans ht);clear hs ht dS iy HS2 HT2
 have dS:=ł (lH wC wC.heap.size (.slice none 0 0) gU _ q3 ([] ++ A ++ ([⟨13,4,0,0,0⟩]:List Ins)) (.slice ua us.length uc) us nJ.out (HRU.out _ nJ.out.g) (by first | omega | (simp;omega)));go_wp2_with fail;refine dS.out.mono ?_;rintro e u4 ⟨rfl,q4,hs,ht⟩;have gH:=ł hs;have xK:=ł (HT3.out.trans ht);clear hs ht dS nJ HT3
 go_wp2_with fail;refine (gy 12 4 0 u4.heap.size _ _ (heap_alloc_new u4 _)).mono ?_;rintro e Gn ⟨rfl,hg⟩;simp only;have hg0:Grow u4 Gn:=Mv.trans ((Mv.refl _ u4).alloc _) hg (fun _ e=>e.elim);clear hg;have hgz:Grow u4 (Gn.alloc (.cells #[.int .u8 12,.int .i64 4,.int .i64 0,.int .i64 0,.int .i64 0] 57)):=hg0.alloc _;have dS:=ł (lH wC wC.heap.size (.slice none 0 0) gU _ q4 ([] ++ A ++ ([⟨13,4,0,0,0⟩]:List Ins) ++ us) (.slice (some ⟨Gn.heap.size,0,none⟩) 1 1) ([⟨12,4,0,0,0⟩]:List Ins) (gH.out.grow hgz) (ax.bH (f:=Ins.cells) (l:=([⟨12,4,0,0,0⟩]:List Ins)) (fun _=>rfl) (heap_alloc_new Gn _) rfl (by simp)) (by simp;omega));have iy:=ł (xK.out.trans (df.grow hgz));clear hgz hg0;go_wp2_with fail;refine dS.out.mono ?_;rintro e u5 ⟨rfl,q5,hs,ht⟩;have oH:=ł hs;have uF:=ł (iy.out.trans ht);clear hs ht dS iy gH xK
 have Sz:=ł (VD (.slice ca A.length cc) A u5 (Sy.out _ oH.out.g) hlen xJ.out);go_wp2_with fail;refine Sz.out.mono ?_;rintro e w6 ⟨v6,rfl,hun⟩;obtain ⟨da,dc,hds⟩:=gz hun.row;subst hds;have SA:=ł (oH.out.grow hun.g);have Gp:=ł (uF.out.trans (df.grow hun.g));have HRD:=ł (gP (fun _=>rfl) hun.row:ax 5 Ins.cells w6 (.slice da (gJ A).length dc) (gJ A));have Ql:(gJ A).length=A.length:=D7 A;have HUL:=ł Ql;clear hun Ql Sz oH uF;have dS:=ł (lH wC wC.heap.size (.slice none 0 0) gU _ q5 ([] ++ A ++ ([⟨13,4,0,0,0⟩]:List Ins) ++ us ++ ([⟨12,4,0,0,0⟩]:List Ins)) (.slice da (gJ A).length dc) (gJ A) SA.out HRD.out (by rw [HUL.out];simp;omega));go_wp2_with fail;refine dS.out.mono ?_;rintro e u7 ⟨rfl,q7,hs,ht⟩;have C9:=ł hs;have HT7:=ł (Gp.out.trans ht);clear hs ht dS SA Gp
 obtain ⟨⟨b0,b1⟩,b2,b3⟩:=aF C9.out.blk;have HR:=ł (show kV w u7 q7 (jP A us) from ⟨gtr wh.out C9.out.g,ES (by have:=C9.out.row;simp only [List.nil_append] at this;exact this) wh.out.size⟩);have hl3:=lt_of_block C9.out.blk;clear C9 HT7;go_wp2_with fail
 go_ret2
 exact ⟨_,rfl,HR.out⟩
end Go.Proofs.YtnobahchcongnaaGreatDoor
