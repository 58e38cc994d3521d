import Derived.Test.YtnobahchcongnaaGreatDoorQ11
set_option linter.unusedSimpArgs false
set_option linter.unusedVariables false
set_option maxRecDepth 100000
set_option maxHeartbeats 25600000
namespace Go.Proofs.YtnobahchcongnaaGreatDoor
open Go.RowKit Go.Instr
theorem UK (l:List Tree) (t:Tree):jD (l ++ [t])=max (jD l) (gV t):=by
 induction l with
 | nil=>simp [jD]
 | cons x l ih=>simp only [List.cons_append,jD,ih];omega
theorem Mi (l:List Tree) (j:Nat) (h:j<l.length):jD (l.take (j+1))=max (jD (l.take j)) (gV l[j]):=by
 rw [List.take_succ_eq_append_getElem h,UK]
theorem Ij (l:List Tree) (j:Nat) (h:j<l.length):gV l[j]≤jD l:=by
 induction l generalizing j with
 | nil=>simp at h
 | cons t l ih =>
  cases j with
  | zero=>simp only [List.getElem_cons_zero,jD];omega
  | succ j=>have:=ih j (by simpa using h);simp only [List.getElem_cons_succ,jD];omega
theorem Uq (l:List Tree) (j:Nat) (h:j≤l.length):jD (l.take j)≤jD l:=by
 induction j with
 | zero=>simp [jD]
 | succ j ih =>
  rw [Mi l j (by omega)];have:=ih (by omega);have:=Ij l j (by omega);omega
theorem Wz:∀ (m:Nat) (x:ae),SizeOf.sizeOf x≤m→gV x.t≤1000000→∀ w:World,aV w x→Calls Tryz.prog 71 #[x.val] w fun e w'=>e = .returned (.int .i64 (gV x.t))∧Grow w w':=by
 intro m
 induction m with
 | zero=>intro x hm;cases x;simp at hm
 | succ m ih =>
  intro x hm hd w hx;obtain ⟨k,n,s,kv,l⟩:=x;obtain ⟨a,cap,rfl,hcap,hlen⟩:=hx.form;have CQ:=ł (show gV (ae.mk k n s (.slice a l.length cap) l).t=jD (ae.ts l)+1 from by simp only [ae.t,gV]);rw [CQ.out] at hd;have fG:=ł (fun (j:Nat) (hj:j<l.length) (w':World) (hg:Grow w w')=>ih l[j] (by have:=nV (k:=k) (n:=n) (s:=s) (kv := .slice a l.length cap) (List.getElem_mem hj);omega) (by
   have:=Ij (ae.ts l) j (by rw [ae.cZ];exact hj);rw [ae.gK l j hj] at this
   omega) w' ((hx.row.2.2.2.2 l[j] (List.getElem_mem hj)).later hg))
  have HX:=ł hx;have HD:=ł hd;clear ih hm hx hd;simp only [ae.val];have HG:=ł (show Grow w (w.alloc (.cells #[.int .u8 k,.int .i64 n,.string s,.slice a l.length cap] 24)) from (Mv.refl _ _).alloc _)
  go_enter Tryz.func71,Tryz.ntmps71
  go_wp2_with fail;generalize w.alloc (.cells #[.int .u8 k,.int .i64 n,.string s,.slice a l.length cap] 24)=w1 at *
  go_loopw [3,9] (fun dv t wr=>∃ j:Nat,dv = .int .i64 (jD ((ae.ts l).take j))∧t = .int .i64 j∧j≤l.length∧Grow w1 wr) (fun _ t _=>l.length - (intOf t).toNat)
  case atStart=>exact ⟨0,by simp [jD],rfl,Nat.zero_le _,Mv.refl _ _⟩
  obtain ⟨j,rfl,rfl,hj,hgr⟩:=hrel;have bV:=ł hgr;have aQ:=ł (Mv.trans HG.out hgr (fun _ e=>e.elim));clear hgr;have hdj:=Uq (ae.ts l) j (by rw [ae.cZ];exact hj);have hd:=HD.out;by_cases hlt:j<l.length
  · obtain ⟨b,off,cap',e,_,hcc⟩:=(HX.out.row.2.2.2.1.later aQ.out).at hlt;simp only [Value.slice.injEq,true_and] at e;obtain ⟨rfl,rfl⟩:=e;have aX:=HX.out.row.2.2.2.2 l[j] (List.getElem_mem hlt);have HI:=ł (fun w' (h:Grow wr w')=>fG.out j hlt w' (Mv.trans aQ.out h (fun _ e=>e.elim)));have CR:=ł (by have:=Mi (ae.ts l) j (by rw [ae.cZ];exact hlt);rw [ae.gK l j hlt] at this;exact this);generalize l[j]=y at HI CR aX hcc;obtain ⟨yk,yn,ys,jf,yl⟩:=y;obtain ⟨ya,yc,rfl,-,-⟩:=aX.form;simp only [ae.val] at HI;have c0:=hcc 0 _ rfl;have c1:=hcc 1 _ rfl;have c2:=hcc 2 _ rfl;have c3:=hcc 3 _ rfl;simp only [Nat.add_zero] at c0;have hbl:b<wr.heap.size:=World.block_lt_of_cell? wr _ c0
    have HC:=ł (HI.out (wr.alloc (.cells #[.int .u8 yk,.int .i64 yn,.string ys,.slice ya yl.length yc] 24)) ((Mv.refl _ _).alloc _));have aA:=ł (bV.out.alloc (.cells #[.int .u8 yk,.int .i64 yn,.string ys,.slice ya yl.length yc] 24));generalize gV (ae.mk yk yn ys (.slice ya yl.length yc) yl).t=dy at *;generalize jD ((ae.ts l).take j)=dj at *;clear hcc aX;go_wp2_with fail;refine HC.out.mono ?_;rintro e w5 ⟨rfl,hg5⟩;have aS:=ł (Mv.trans aA.out hg5 (fun _ e=>e.elim));clear hg5;go_wp2_with fail
    go_roundw
    case rel=>exact ⟨j+1,by rw [CR.out];congr 1;omega,by go_num,by omega,aS.out⟩
    case measure=>simp [intOf];omega
  obtain rfl:j=l.length:=by omega
  have gM:=ł (show (ae.ts l).take l.length=ae.ts l from List.take_of_length_le (by rw [ae.cZ];exact Nat.le_refl _));rw [gM.out] at hdj ⊢;generalize jD (ae.ts l)=dd at *;go_wp2_with fail;go_ret;exact ⟨gT (by rw [CQ.out];omega),aQ.out⟩
theorem WA (x:ae) (w:World) (h:aV w x) (hd:gV x.t≤1000000):Calls Tryz.prog 71 #[x.val] w fun e w'=>e = .returned (.int .i64 (gV x.t))∧Grow w w':=Wz _ x (Nat.le_refl _) hd w h
mutual
def bM (f:az):Tree→Bool
 | .mk k _ s l =>
  if k=2 then (au f s 1).isSome && jL f l
  else if k=3 then (au f s 2).isSome && jL f l
  else if k=4∨k=5 then (au f s 3).isSome && jL f l
  else jL f l
def jL (f:az):List Tree→Bool
 | []=>true
 | t :: l=>bM f t && jL f l
end
theorem tN (f:az) (l:List Tree):jL f l=l.all (bM f):=by
 induction l with
 | nil=>rw [jL];rfl
 | cons t l ih=>rw [jL,ih];rfl
theorem Vx (sv:Value) (f:az):∀ (m:Nat) (x:ae),SizeOf.sizeOf x≤m→∀ w:World,fF w sv f→aV w x →
 Calls Tryz.prog 70 #[x.val,.agg #[sv,.int .i64 f.cells,.int .i64 f.stacks]] w (jN w (bM f x.t)):=by
 intro m
 induction m with
 | zero=>intro x hm;cases x;simp at hm
 | succ m ih =>
  intro x hm w hf hx;obtain ⟨k,n,s,kv,l⟩:=x;obtain ⟨a,cap,rfl,hcap,hlen⟩:=hx.form;obtain ⟨fa,fc,rfl,hfc,hfl⟩:=hf.row.form;have fG:=ł (fun (y:ae) (hy:y∈l) (w':World) (hg:Grow w w')=>ih y (by have:=nV (k:=k) (n:=n) (s:=s) (kv := .slice a l.length cap) hy;omega) w' (hf.later hg) ((hx.row.2.2.2.2 y hy).later hg));have HF:=ł hf;have HX:=ł hx;clear ih hm hf hx;simp only [ae.val,ae.t];by_cases h2:k=2
  · subst h2;have hg1:Grow w ((w.alloc (.cells #[.int .u8 2,.int .i64 n,.string s,.slice a l.length cap] 24)).alloc (.cells #[.slice fa f.slots.length fc,.int .i64 f.cells,.int .i64 f.stacks] 27)):=((Mv.refl _ _).alloc _).alloc _;have hN:=aT (heap_alloc_new w (.cells #[.int .u8 2,.int .i64 n,.string s,.slice a l.length cap] 24)) (.cells #[.slice fa f.slots.length fc,.int .i64 f.cells,.int .i64 f.stacks] 27);have hU:=heap_alloc_new (w.alloc (.cells #[.int .u8 2,.int .i64 n,.string s,.slice a l.length cap] 24)) (.cells #[.slice fa f.slots.length fc,.int .i64 f.cells,.int .i64 f.stacks] 27);rw [World.size_alloc] at hU;have bJ:=ł hg1;have HU:=ł hU;have HN:=ł hN;clear hg1 hU hN;have dQ:=ł (nX (.slice fa f.slots.length fc) f s 1 ((w.alloc (.cells #[.int .u8 2,.int .i64 n,.string s,.slice a l.length cap] 24)).alloc (.cells #[.slice fa f.slots.length fc,.int .i64 f.cells,.int .i64 f.stacks] 27)) (HF.out.later bJ.out));have bA:=ł (show (au f s 1).isSome=true→bM f (.mk 2 n s (ae.ts l))=jL f (ae.ts l) from fun h=>by simp [bM,h]);have jv:=ł (show (au f s 1).isSome=false→bM f (.mk 2 n s (ae.ts l))=false from fun h=>by simp [bM,h])
    go_enter Tryz.func70,Tryz.ntmps70
    go_wp2_with fail;generalize ((w.alloc (.cells #[.int .u8 2,.int .i64 n,.string s,.slice a l.length cap] 24)).alloc (.cells #[.slice fa f.slots.length fc,.int .i64 f.cells,.int .i64 f.stacks] 27))=w1 at *;refine dQ.out.mono ?_;rintro e w2 ⟨rfl,hg2⟩;have dK:=ł (Mv.trans bJ.out hg2 (fun _ e=>e.elim));have gL:=ł (ai HU.out hg2);have bX:=ai HN.out hg2;obtain ⟨⟨n0,n1⟩,n2,n3⟩:=aF bX;have hln:=lt_of_block bX;generalize (au f s 1).isSome=pb at *;generalize (au f s 1).getD noSlot=sl at *;clear hg2 bX dQ;cases pb with
    | false =>
     have HR:=ł (jv.out rfl);go_wp2_with fail;go_ret;exact ⟨aD HR.out.symm,dK.out⟩
    | true =>
    have fe:=ł (bA.out rfl);clear bA;have bA:=fe;clear fe;go_wp2_with fail;clear n0 n1 n2 n3 hln
    go_loopw [43] (fun t wr=>∃ j:Nat,t = .int .i64 j∧j≤l.length∧(∀ i (h1:i<l.length),i<j→bM f l[i].t=true)∧Grow w2 wr) (fun t _=>l.length - (intOf t).toNat)
    case atStart=>exact ⟨0,rfl,Nat.zero_le _,fun i _ h=>by omega,Mv.refl _ _⟩
    obtain ⟨j,rfl,hj,hall,hgr⟩:=hrel;have bT:=ł hall;have bV:=ł hgr;have aQ:=ł (Mv.trans dK.out hgr (fun _ e=>e.elim));have bO:=ai gL.out hgr;have u0:wr.cell? ⟨w.heap.size+1,0,none⟩=some (.slice fa f.slots.length fc):=by simp [World.cell?,bO]
    have u1:wr.cell? ⟨w.heap.size+1,1,none⟩=some (.int .i64 f.cells):=by simp [World.cell?,bO]
    have u2:wr.cell? ⟨w.heap.size+1,2,none⟩=some (.int .i64 f.stacks):=by simp [World.cell?,bO]
    have jg:=lt_of_block bO;clear hall hgr bO;by_cases hlt:j<l.length
    · obtain ⟨b,off,cap',e,_,hcc⟩:=(HX.out.row.2.2.2.1.later aQ.out).at hlt;simp only [Value.slice.injEq,true_and] at e;obtain ⟨rfl,rfl⟩:=e;have aX:=HX.out.row.2.2.2.2 l[j] (List.getElem_mem hlt);have HI:=ł (fun w' (h:Grow wr w')=>fG.out l[j] (List.getElem_mem hlt) w' (Mv.trans aQ.out h (fun _ e=>e.elim)));have HST:=ł (show (bM f l[j].t=true→∀ i (h1:i<l.length),i<j+1→bM f l[i].t=true) from fun h i h1 hij=>by
       rcases Nat.lt_or_ge i j with h3 | h3
       · exact bT.out i h1 h3
       · obtain rfl:i=j:=by omega
         exact h)
      have bF:=ł (show (bM f l[j].t=false→jL f (ae.ts l)=false) from fun h=>by
       rw [tN];exact List.all_eq_false.2 ⟨l[j].t,by rw [ae.dP];exact List.mem_map.2 ⟨l[j],List.getElem_mem hlt,rfl⟩,by rw [h];simp⟩)
      generalize l[j]=y at HST bF HI aX hcc;obtain ⟨yk,yn,ys,jf,yl⟩:=y;obtain ⟨ya,yc,rfl,-,-⟩:=aX.form;simp only [ae.val] at HI;have c0:=hcc 0 _ rfl;have c1:=hcc 1 _ rfl;have c2:=hcc 2 _ rfl;have c3:=hcc 3 _ rfl;simp only [Nat.add_zero] at c0;have hbl:b<wr.heap.size:=World.block_lt_of_cell? wr _ c0
      have aA:=ł (bV.out.alloc (.cells #[.int .u8 yk,.int .i64 yn,.string ys,.slice ya yl.length yc] 24));have dL:=ł (aQ.out.alloc (.cells #[.int .u8 yk,.int .i64 yn,.string ys,.slice ya yl.length yc] 24));have HC:=ł (HI.out (wr.alloc (.cells #[.int .u8 yk,.int .i64 yn,.string ys,.slice ya yl.length yc] 24)) ((Mv.refl _ _).alloc _));generalize bM f (ae.mk yk yn ys (.slice ya yl.length yc) yl).t=bv at *;clear hcc aX;go_wp2_with fail;refine HC.out.mono ?_;rintro e w5 ⟨rfl,hg5⟩;have aS:=ł (Mv.trans aA.out hg5 (fun _ e=>e.elim));have bP:=ł (Mv.trans dL.out hg5 (fun _ e=>e.elim));clear hg5;cases bv with
      | true =>
       have aU:=ł (HST.out rfl);go_wp2_with fail
       go_roundw
       case rel=>exact ⟨j+1,by go_num,by omega,aU.out,aS.out⟩
       case measure=>simp [intOf];omega
      | false =>
       have HR:=ł (show bM f (.mk 2 n s (ae.ts l))=false from by rw [bA.out,bF.out rfl]);go_wp2_with fail;go_ret;exact ⟨aD HR.out.symm,bP.out⟩
    obtain rfl:j=l.length:=by omega
    have HR:=ł (show bM f (.mk 2 n s (ae.ts l))=true from by
     rw [bA.out,tN];refine List.all_eq_true.2 fun t ht => ?_;rw [ae.dP] at ht;obtain ⟨x,hx,rfl⟩:=List.mem_map.1 ht;obtain ⟨i,hi,rfl⟩:=List.mem_iff_getElem.1 hx;exact bT.out i hi hi)
    go_wp2_with fail;go_ret;exact ⟨aD HR.out.symm,aQ.out⟩
  by_cases h3:k=3
  · subst h3;have hg1:Grow w ((w.alloc (.cells #[.int .u8 3,.int .i64 n,.string s,.slice a l.length cap] 24)).alloc (.cells #[.slice fa f.slots.length fc,.int .i64 f.cells,.int .i64 f.stacks] 27)):=((Mv.refl _ _).alloc _).alloc _;have hN:=aT (heap_alloc_new w (.cells #[.int .u8 3,.int .i64 n,.string s,.slice a l.length cap] 24)) (.cells #[.slice fa f.slots.length fc,.int .i64 f.cells,.int .i64 f.stacks] 27);have hU:=heap_alloc_new (w.alloc (.cells #[.int .u8 3,.int .i64 n,.string s,.slice a l.length cap] 24)) (.cells #[.slice fa f.slots.length fc,.int .i64 f.cells,.int .i64 f.stacks] 27);rw [World.size_alloc] at hU;have bJ:=ł hg1;have HU:=ł hU;have HN:=ł hN;clear hg1 hU hN;have dQ:=ł (nX (.slice fa f.slots.length fc) f s 2 ((w.alloc (.cells #[.int .u8 3,.int .i64 n,.string s,.slice a l.length cap] 24)).alloc (.cells #[.slice fa f.slots.length fc,.int .i64 f.cells,.int .i64 f.stacks] 27)) (HF.out.later bJ.out));have bA:=ł (show (au f s 2).isSome=true→bM f (.mk 3 n s (ae.ts l))=jL f (ae.ts l) from fun h=>by simp [bM,h]);have jv:=ł (show (au f s 2).isSome=false→bM f (.mk 3 n s (ae.ts l))=false from fun h=>by simp [bM,h])
    go_enter Tryz.func70,Tryz.ntmps70
    go_wp2_with fail;generalize ((w.alloc (.cells #[.int .u8 3,.int .i64 n,.string s,.slice a l.length cap] 24)).alloc (.cells #[.slice fa f.slots.length fc,.int .i64 f.cells,.int .i64 f.stacks] 27))=w1 at *;refine dQ.out.mono ?_;rintro e w2 ⟨rfl,hg2⟩;have dK:=ł (Mv.trans bJ.out hg2 (fun _ e=>e.elim));have gL:=ł (ai HU.out hg2);have bX:=ai HN.out hg2;obtain ⟨⟨n0,n1⟩,n2,n3⟩:=aF bX;have hln:=lt_of_block bX;generalize (au f s 2).isSome=pb at *;generalize (au f s 2).getD noSlot=sl at *;clear hg2 bX dQ;cases pb with
    | false =>
     have HR:=ł (jv.out rfl);go_wp2_with fail;go_ret;exact ⟨aD HR.out.symm,dK.out⟩
    | true =>
    have fe:=ł (bA.out rfl);clear bA;have bA:=fe;clear fe;go_wp2_with fail;clear n0 n1 n2 n3 hln
    go_loopw [43] (fun t wr=>∃ j:Nat,t = .int .i64 j∧j≤l.length∧(∀ i (h1:i<l.length),i<j→bM f l[i].t=true)∧Grow w2 wr) (fun t _=>l.length - (intOf t).toNat)
    case atStart=>exact ⟨0,rfl,Nat.zero_le _,fun i _ h=>by omega,Mv.refl _ _⟩
    obtain ⟨j,rfl,hj,hall,hgr⟩:=hrel;have bT:=ł hall;have bV:=ł hgr;have aQ:=ł (Mv.trans dK.out hgr (fun _ e=>e.elim));have bO:=ai gL.out hgr;have u0:wr.cell? ⟨w.heap.size+1,0,none⟩=some (.slice fa f.slots.length fc):=by simp [World.cell?,bO]
    have u1:wr.cell? ⟨w.heap.size+1,1,none⟩=some (.int .i64 f.cells):=by simp [World.cell?,bO]
    have u2:wr.cell? ⟨w.heap.size+1,2,none⟩=some (.int .i64 f.stacks):=by simp [World.cell?,bO]
    have jg:=lt_of_block bO;clear hall hgr bO;by_cases hlt:j<l.length
    · obtain ⟨b,off,cap',e,_,hcc⟩:=(HX.out.row.2.2.2.1.later aQ.out).at hlt;simp only [Value.slice.injEq,true_and] at e;obtain ⟨rfl,rfl⟩:=e;have aX:=HX.out.row.2.2.2.2 l[j] (List.getElem_mem hlt);have HI:=ł (fun w' (h:Grow wr w')=>fG.out l[j] (List.getElem_mem hlt) w' (Mv.trans aQ.out h (fun _ e=>e.elim)));have HST:=ł (show (bM f l[j].t=true→∀ i (h1:i<l.length),i<j+1→bM f l[i].t=true) from fun h i h1 hij=>by
       rcases Nat.lt_or_ge i j with h3 | h3
       · exact bT.out i h1 h3
       · obtain rfl:i=j:=by omega
         exact h)
      have bF:=ł (show (bM f l[j].t=false→jL f (ae.ts l)=false) from fun h=>by
       rw [tN];exact List.all_eq_false.2 ⟨l[j].t,by rw [ae.dP];exact List.mem_map.2 ⟨l[j],List.getElem_mem hlt,rfl⟩,by rw [h];simp⟩)
      generalize l[j]=y at HST bF HI aX hcc;obtain ⟨yk,yn,ys,jf,yl⟩:=y;obtain ⟨ya,yc,rfl,-,-⟩:=aX.form;simp only [ae.val] at HI;have c0:=hcc 0 _ rfl;have c1:=hcc 1 _ rfl;have c2:=hcc 2 _ rfl;have c3:=hcc 3 _ rfl;simp only [Nat.add_zero] at c0;have hbl:b<wr.heap.size:=World.block_lt_of_cell? wr _ c0
      have aA:=ł (bV.out.alloc (.cells #[.int .u8 yk,.int .i64 yn,.string ys,.slice ya yl.length yc] 24));have dL:=ł (aQ.out.alloc (.cells #[.int .u8 yk,.int .i64 yn,.string ys,.slice ya yl.length yc] 24));have HC:=ł (HI.out (wr.alloc (.cells #[.int .u8 yk,.int .i64 yn,.string ys,.slice ya yl.length yc] 24)) ((Mv.refl _ _).alloc _));generalize bM f (ae.mk yk yn ys (.slice ya yl.length yc) yl).t=bv at *;clear hcc aX;go_wp2_with fail;refine HC.out.mono ?_;rintro e w5 ⟨rfl,hg5⟩;have aS:=ł (Mv.trans aA.out hg5 (fun _ e=>e.elim));have bP:=ł (Mv.trans dL.out hg5 (fun _ e=>e.elim));clear hg5;cases bv with
      | true =>
       have aU:=ł (HST.out rfl);go_wp2_with fail
       go_roundw
       case rel=>exact ⟨j+1,by go_num,by omega,aU.out,aS.out⟩
       case measure=>simp [intOf];omega
      | false =>
       have HR:=ł (show bM f (.mk 3 n s (ae.ts l))=false from by rw [bA.out,bF.out rfl]);go_wp2_with fail;go_ret;exact ⟨aD HR.out.symm,bP.out⟩
    obtain rfl:j=l.length:=by omega
    have HR:=ł (show bM f (.mk 3 n s (ae.ts l))=true from by
     rw [bA.out,tN];refine List.all_eq_true.2 fun t ht => ?_;rw [ae.dP] at ht;obtain ⟨x,hx,rfl⟩:=List.mem_map.1 ht;obtain ⟨i,hi,rfl⟩:=List.mem_iff_getElem.1 hx;exact bT.out i hi hi)
    go_wp2_with fail;go_ret;exact ⟨aD HR.out.symm,aQ.out⟩
  by_cases h4:k=4
  · subst h4;have hg1:Grow w ((w.alloc (.cells #[.int .u8 4,.int .i64 n,.string s,.slice a l.length cap] 24)).alloc (.cells #[.slice fa f.slots.length fc,.int .i64 f.cells,.int .i64 f.stacks] 27)):=((Mv.refl _ _).alloc _).alloc _;have hN:=aT (heap_alloc_new w (.cells #[.int .u8 4,.int .i64 n,.string s,.slice a l.length cap] 24)) (.cells #[.slice fa f.slots.length fc,.int .i64 f.cells,.int .i64 f.stacks] 27);have hU:=heap_alloc_new (w.alloc (.cells #[.int .u8 4,.int .i64 n,.string s,.slice a l.length cap] 24)) (.cells #[.slice fa f.slots.length fc,.int .i64 f.cells,.int .i64 f.stacks] 27);rw [World.size_alloc] at hU;have bJ:=ł hg1;have HU:=ł hU;have HN:=ł hN;clear hg1 hU hN;have dQ:=ł (nX (.slice fa f.slots.length fc) f s 3 ((w.alloc (.cells #[.int .u8 4,.int .i64 n,.string s,.slice a l.length cap] 24)).alloc (.cells #[.slice fa f.slots.length fc,.int .i64 f.cells,.int .i64 f.stacks] 27)) (HF.out.later bJ.out));have bA:=ł (show (au f s 3).isSome=true→bM f (.mk 4 n s (ae.ts l))=jL f (ae.ts l) from fun h=>by simp [bM,h]);have jv:=ł (show (au f s 3).isSome=false→bM f (.mk 4 n s (ae.ts l))=false from fun h=>by simp [bM,h])
    go_enter Tryz.func70,Tryz.ntmps70
    go_wp2_with fail;generalize ((w.alloc (.cells #[.int .u8 4,.int .i64 n,.string s,.slice a l.length cap] 24)).alloc (.cells #[.slice fa f.slots.length fc,.int .i64 f.cells,.int .i64 f.stacks] 27))=w1 at *;refine dQ.out.mono ?_;rintro e w2 ⟨rfl,hg2⟩;have dK:=ł (Mv.trans bJ.out hg2 (fun _ e=>e.elim));have gL:=ł (ai HU.out hg2);have bX:=ai HN.out hg2;obtain ⟨⟨n0,n1⟩,n2,n3⟩:=aF bX;have hln:=lt_of_block bX;generalize (au f s 3).isSome=pb at *;generalize (au f s 3).getD noSlot=sl at *;clear hg2 bX dQ;cases pb with
    | false =>
     have HR:=ł (jv.out rfl);go_wp2_with fail;go_ret;exact ⟨aD HR.out.symm,dK.out⟩
    | true =>
    have fe:=ł (bA.out rfl);clear bA;have bA:=fe;clear fe;go_wp2_with fail;clear n0 n1 n2 n3 hln
    go_loopw [43] (fun t wr=>∃ j:Nat,t = .int .i64 j∧j≤l.length∧(∀ i (h1:i<l.length),i<j→bM f l[i].t=true)∧Grow w2 wr) (fun t _=>l.length - (intOf t).toNat)
    case atStart=>exact ⟨0,rfl,Nat.zero_le _,fun i _ h=>by omega,Mv.refl _ _⟩
    obtain ⟨j,rfl,hj,hall,hgr⟩:=hrel;have bT:=ł hall;have bV:=ł hgr;have aQ:=ł (Mv.trans dK.out hgr (fun _ e=>e.elim));have bO:=ai gL.out hgr;have u0:wr.cell? ⟨w.heap.size+1,0,none⟩=some (.slice fa f.slots.length fc):=by simp [World.cell?,bO]
    have u1:wr.cell? ⟨w.heap.size+1,1,none⟩=some (.int .i64 f.cells):=by simp [World.cell?,bO]
    have u2:wr.cell? ⟨w.heap.size+1,2,none⟩=some (.int .i64 f.stacks):=by simp [World.cell?,bO]
    have jg:=lt_of_block bO;clear hall hgr bO;by_cases hlt:j<l.length
    · obtain ⟨b,off,cap',e,_,hcc⟩:=(HX.out.row.2.2.2.1.later aQ.out).at hlt;simp only [Value.slice.injEq,true_and] at e;obtain ⟨rfl,rfl⟩:=e;have aX:=HX.out.row.2.2.2.2 l[j] (List.getElem_mem hlt);have HI:=ł (fun w' (h:Grow wr w')=>fG.out l[j] (List.getElem_mem hlt) w' (Mv.trans aQ.out h (fun _ e=>e.elim)));have HST:=ł (show (bM f l[j].t=true→∀ i (h1:i<l.length),i<j+1→bM f l[i].t=true) from fun h i h1 hij=>by
       rcases Nat.lt_or_ge i j with h3 | h3
       · exact bT.out i h1 h3
       · obtain rfl:i=j:=by omega
         exact h)
      have bF:=ł (show (bM f l[j].t=false→jL f (ae.ts l)=false) from fun h=>by
       rw [tN];exact List.all_eq_false.2 ⟨l[j].t,by rw [ae.dP];exact List.mem_map.2 ⟨l[j],List.getElem_mem hlt,rfl⟩,by rw [h];simp⟩)
      generalize l[j]=y at HST bF HI aX hcc;obtain ⟨yk,yn,ys,jf,yl⟩:=y;obtain ⟨ya,yc,rfl,-,-⟩:=aX.form;simp only [ae.val] at HI;have c0:=hcc 0 _ rfl;have c1:=hcc 1 _ rfl;have c2:=hcc 2 _ rfl;have c3:=hcc 3 _ rfl;simp only [Nat.add_zero] at c0;have hbl:b<wr.heap.size:=World.block_lt_of_cell? wr _ c0
      have aA:=ł (bV.out.alloc (.cells #[.int .u8 yk,.int .i64 yn,.string ys,.slice ya yl.length yc] 24));have dL:=ł (aQ.out.alloc (.cells #[.int .u8 yk,.int .i64 yn,.string ys,.slice ya yl.length yc] 24));have HC:=ł (HI.out (wr.alloc (.cells #[.int .u8 yk,.int .i64 yn,.string ys,.slice ya yl.length yc] 24)) ((Mv.refl _ _).alloc _));generalize bM f (ae.mk yk yn ys (.slice ya yl.length yc) yl).t=bv at *;clear hcc aX;go_wp2_with fail;refine HC.out.mono ?_;rintro e w5 ⟨rfl,hg5⟩;have aS:=ł (Mv.trans aA.out hg5 (fun _ e=>e.elim));have bP:=ł (Mv.trans dL.out hg5 (fun _ e=>e.elim));clear hg5;cases bv with
      | true =>
       have aU:=ł (HST.out rfl);go_wp2_with fail
       go_roundw
       case rel=>exact ⟨j+1,by go_num,by omega,aU.out,aS.out⟩
       case measure=>simp [intOf];omega
      | false =>
       have HR:=ł (show bM f (.mk 4 n s (ae.ts l))=false from by rw [bA.out,bF.out rfl]);go_wp2_with fail;go_ret;exact ⟨aD HR.out.symm,bP.out⟩
    obtain rfl:j=l.length:=by omega
    have HR:=ł (show bM f (.mk 4 n s (ae.ts l))=true from by
     rw [bA.out,tN];refine List.all_eq_true.2 fun t ht => ?_;rw [ae.dP] at ht;obtain ⟨x,hx,rfl⟩:=List.mem_map.1 ht;obtain ⟨i,hi,rfl⟩:=List.mem_iff_getElem.1 hx;exact bT.out i hi hi)
    go_wp2_with fail;go_ret;exact ⟨aD HR.out.symm,aQ.out⟩
  by_cases h5:k=5
  · subst h5;have hg1:Grow w ((w.alloc (.cells #[.int .u8 5,.int .i64 n,.string s,.slice a l.length cap] 24)).alloc (.cells #[.slice fa f.slots.length fc,.int .i64 f.cells,.int .i64 f.stacks] 27)):=((Mv.refl _ _).alloc _).alloc _;have hN:=aT (heap_alloc_new w (.cells #[.int .u8 5,.int .i64 n,.string s,.slice a l.length cap] 24)) (.cells #[.slice fa f.slots.length fc,.int .i64 f.cells,.int .i64 f.stacks] 27);have hU:=heap_alloc_new (w.alloc (.cells #[.int .u8 5,.int .i64 n,.string s,.slice a l.length cap] 24)) (.cells #[.slice fa f.slots.length fc,.int .i64 f.cells,.int .i64 f.stacks] 27);rw [World.size_alloc] at hU;have bJ:=ł hg1;have HU:=ł hU;have HN:=ł hN;clear hg1 hU hN;have dQ:=ł (nX (.slice fa f.slots.length fc) f s 3 ((w.alloc (.cells #[.int .u8 5,.int .i64 n,.string s,.slice a l.length cap] 24)).alloc (.cells #[.slice fa f.slots.length fc,.int .i64 f.cells,.int .i64 f.stacks] 27)) (HF.out.later bJ.out));have bA:=ł (show (au f s 3).isSome=true→bM f (.mk 5 n s (ae.ts l))=jL f (ae.ts l) from fun h=>by simp [bM,h]);have jv:=ł (show (au f s 3).isSome=false→bM f (.mk 5 n s (ae.ts l))=false from fun h=>by simp [bM,h])
    go_enter Tryz.func70,Tryz.ntmps70
    go_wp2_with fail;generalize ((w.alloc (.cells #[.int .u8 5,.int .i64 n,.string s,.slice a l.length cap] 24)).alloc (.cells #[.slice fa f.slots.length fc,.int .i64 f.cells,.int .i64 f.stacks] 27))=w1 at *;refine dQ.out.mono ?_;rintro e w2 ⟨rfl,hg2⟩;have dK:=ł (Mv.trans bJ.out hg2 (fun _ e=>e.elim));have gL:=ł (ai HU.out hg2);have bX:=ai HN.out hg2;obtain ⟨⟨n0,n1⟩,n2,n3⟩:=aF bX;have hln:=lt_of_block bX;generalize (au f s 3).isSome=pb at *;generalize (au f s 3).getD noSlot=sl at *;clear hg2 bX dQ;cases pb with
    | false =>
     have HR:=ł (jv.out rfl);go_wp2_with fail;go_ret;exact ⟨aD HR.out.symm,dK.out⟩
    | true =>
    have fe:=ł (bA.out rfl);clear bA;have bA:=fe;clear fe;go_wp2_with fail;clear n0 n1 n2 n3 hln
    go_loopw [43] (fun t wr=>∃ j:Nat,t = .int .i64 j∧j≤l.length∧(∀ i (h1:i<l.length),i<j→bM f l[i].t=true)∧Grow w2 wr) (fun t _=>l.length - (intOf t).toNat)
    case atStart=>exact ⟨0,rfl,Nat.zero_le _,fun i _ h=>by omega,Mv.refl _ _⟩
    obtain ⟨j,rfl,hj,hall,hgr⟩:=hrel;have bT:=ł hall;have bV:=ł hgr;have aQ:=ł (Mv.trans dK.out hgr (fun _ e=>e.elim));have bO:=ai gL.out hgr;have u0:wr.cell? ⟨w.heap.size+1,0,none⟩=some (.slice fa f.slots.length fc):=by simp [World.cell?,bO]
    have u1:wr.cell? ⟨w.heap.size+1,1,none⟩=some (.int .i64 f.cells):=by simp [World.cell?,bO]
    have u2:wr.cell? ⟨w.heap.size+1,2,none⟩=some (.int .i64 f.stacks):=by simp [World.cell?,bO]
    have jg:=lt_of_block bO;clear hall hgr bO;by_cases hlt:j<l.length
    · obtain ⟨b,off,cap',e,_,hcc⟩:=(HX.out.row.2.2.2.1.later aQ.out).at hlt;simp only [Value.slice.injEq,true_and] at e;obtain ⟨rfl,rfl⟩:=e;have aX:=HX.out.row.2.2.2.2 l[j] (List.getElem_mem hlt);have HI:=ł (fun w' (h:Grow wr w')=>fG.out l[j] (List.getElem_mem hlt) w' (Mv.trans aQ.out h (fun _ e=>e.elim)));have HST:=ł (show (bM f l[j].t=true→∀ i (h1:i<l.length),i<j+1→bM f l[i].t=true) from fun h i h1 hij=>by
       rcases Nat.lt_or_ge i j with h3 | h3
       · exact bT.out i h1 h3
       · obtain rfl:i=j:=by omega
         exact h)
      have bF:=ł (show (bM f l[j].t=false→jL f (ae.ts l)=false) from fun h=>by
       rw [tN];exact List.all_eq_false.2 ⟨l[j].t,by rw [ae.dP];exact List.mem_map.2 ⟨l[j],List.getElem_mem hlt,rfl⟩,by rw [h];simp⟩)
      generalize l[j]=y at HST bF HI aX hcc;obtain ⟨yk,yn,ys,jf,yl⟩:=y;obtain ⟨ya,yc,rfl,-,-⟩:=aX.form;simp only [ae.val] at HI;have c0:=hcc 0 _ rfl;have c1:=hcc 1 _ rfl;have c2:=hcc 2 _ rfl;have c3:=hcc 3 _ rfl;simp only [Nat.add_zero] at c0;have hbl:b<wr.heap.size:=World.block_lt_of_cell? wr _ c0
      have aA:=ł (bV.out.alloc (.cells #[.int .u8 yk,.int .i64 yn,.string ys,.slice ya yl.length yc] 24));have dL:=ł (aQ.out.alloc (.cells #[.int .u8 yk,.int .i64 yn,.string ys,.slice ya yl.length yc] 24));have HC:=ł (HI.out (wr.alloc (.cells #[.int .u8 yk,.int .i64 yn,.string ys,.slice ya yl.length yc] 24)) ((Mv.refl _ _).alloc _));generalize bM f (ae.mk yk yn ys (.slice ya yl.length yc) yl).t=bv at *;clear hcc aX;go_wp2_with fail;refine HC.out.mono ?_;rintro e w5 ⟨rfl,hg5⟩;have aS:=ł (Mv.trans aA.out hg5 (fun _ e=>e.elim));have bP:=ł (Mv.trans dL.out hg5 (fun _ e=>e.elim));clear hg5;cases bv with
      | true =>
       have aU:=ł (HST.out rfl);go_wp2_with fail
       go_roundw
       case rel=>exact ⟨j+1,by go_num,by omega,aU.out,aS.out⟩
       case measure=>simp [intOf];omega
      | false =>
       have HR:=ł (show bM f (.mk 5 n s (ae.ts l))=false from by rw [bA.out,bF.out rfl]);go_wp2_with fail;go_ret;exact ⟨aD HR.out.symm,bP.out⟩
    obtain rfl:j=l.length:=by omega
    have HR:=ł (show bM f (.mk 5 n s (ae.ts l))=true from by
     rw [bA.out,tN];refine List.all_eq_true.2 fun t ht => ?_;rw [ae.dP] at ht;obtain ⟨x,hx,rfl⟩:=List.mem_map.1 ht;obtain ⟨i,hi,rfl⟩:=List.mem_iff_getElem.1 hx;exact bT.out i hi hi)
    go_wp2_with fail;go_ret;exact ⟨aD HR.out.symm,aQ.out⟩
  have hr2:(k == 2)=false:=by simpa using h2
  have hr3:(k == 3)=false:=by simpa using h3
  have hr4:(k == 4)=false:=by simpa using h4
  have yX:(k == 5)=false:=by simpa using h5
  have hg1:Grow w ((w.alloc (.cells #[.int .u8 k,.int .i64 n,.string s,.slice a l.length cap] 24)).alloc (.cells #[.slice fa f.slots.length fc,.int .i64 f.cells,.int .i64 f.stacks] 27)):=((Mv.refl _ _).alloc _).alloc _;have hN:=aT (heap_alloc_new w (.cells #[.int .u8 k,.int .i64 n,.string s,.slice a l.length cap] 24)) (.cells #[.slice fa f.slots.length fc,.int .i64 f.cells,.int .i64 f.stacks] 27);have hU:=heap_alloc_new (w.alloc (.cells #[.int .u8 k,.int .i64 n,.string s,.slice a l.length cap] 24)) (.cells #[.slice fa f.slots.length fc,.int .i64 f.cells,.int .i64 f.stacks] 27);rw [World.size_alloc] at hU;have bJ:=ł hg1;have HU:=ł hU;have HN:=ł hN;clear hg1 hU hN;have bA:=ł (show bM f (.mk k n s (ae.ts l))=jL f (ae.ts l) from by simp [bM,h2,h3,h4,h5]);have dK:=bJ;have gL:=HU;obtain ⟨⟨n0,n1⟩,n2,n3⟩:=aF HN.out;have hln:=lt_of_block HN.out;clear h2 h3 h4 h5
  go_enter Tryz.func70,Tryz.ntmps70
  go_wp2_with fail;clear n0 n1 n2 n3 hln;generalize ((w.alloc (.cells #[.int .u8 k,.int .i64 n,.string s,.slice a l.length cap] 24)).alloc (.cells #[.slice fa f.slots.length fc,.int .i64 f.cells,.int .i64 f.stacks] 27))=w1 at *
  go_loopw [43] (fun t wr=>∃ j:Nat,t = .int .i64 j∧j≤l.length∧(∀ i (h1:i<l.length),i<j→bM f l[i].t=true)∧Grow w1 wr) (fun t _=>l.length - (intOf t).toNat)
  case atStart=>exact ⟨0,rfl,Nat.zero_le _,fun i _ h=>by omega,Mv.refl _ _⟩
  obtain ⟨j,rfl,hj,hall,hgr⟩:=hrel;have bT:=ł hall;have bV:=ł hgr;have aQ:=ł (Mv.trans dK.out hgr (fun _ e=>e.elim));have bO:=ai gL.out hgr;have u0:wr.cell? ⟨w.heap.size+1,0,none⟩=some (.slice fa f.slots.length fc):=by simp [World.cell?,bO]
  have u1:wr.cell? ⟨w.heap.size+1,1,none⟩=some (.int .i64 f.cells):=by simp [World.cell?,bO]
  have u2:wr.cell? ⟨w.heap.size+1,2,none⟩=some (.int .i64 f.stacks):=by simp [World.cell?,bO]
  have jg:=lt_of_block bO;clear hall hgr bO;by_cases hlt:j<l.length
  · obtain ⟨b,off,cap',e,_,hcc⟩:=(HX.out.row.2.2.2.1.later aQ.out).at hlt;simp only [Value.slice.injEq,true_and] at e;obtain ⟨rfl,rfl⟩:=e;have aX:=HX.out.row.2.2.2.2 l[j] (List.getElem_mem hlt);have HI:=ł (fun w' (h:Grow wr w')=>fG.out l[j] (List.getElem_mem hlt) w' (Mv.trans aQ.out h (fun _ e=>e.elim)));have HST:=ł (show (bM f l[j].t=true→∀ i (h1:i<l.length),i<j+1→bM f l[i].t=true) from fun h i h1 hij=>by
     rcases Nat.lt_or_ge i j with h3 | h3
     · exact bT.out i h1 h3
     · obtain rfl:i=j:=by omega
       exact h)
    have bF:=ł (show (bM f l[j].t=false→jL f (ae.ts l)=false) from fun h=>by
     rw [tN];exact List.all_eq_false.2 ⟨l[j].t,by rw [ae.dP];exact List.mem_map.2 ⟨l[j],List.getElem_mem hlt,rfl⟩,by rw [h];simp⟩)
    generalize l[j]=y at HST bF HI aX hcc;obtain ⟨yk,yn,ys,jf,yl⟩:=y;obtain ⟨ya,yc,rfl,-,-⟩:=aX.form;simp only [ae.val] at HI;have c0:=hcc 0 _ rfl;have c1:=hcc 1 _ rfl;have c2:=hcc 2 _ rfl;have c3:=hcc 3 _ rfl;simp only [Nat.add_zero] at c0;have hbl:b<wr.heap.size:=World.block_lt_of_cell? wr _ c0
    have aA:=ł (bV.out.alloc (.cells #[.int .u8 yk,.int .i64 yn,.string ys,.slice ya yl.length yc] 24));have dL:=ł (aQ.out.alloc (.cells #[.int .u8 yk,.int .i64 yn,.string ys,.slice ya yl.length yc] 24));have HC:=ł (HI.out (wr.alloc (.cells #[.int .u8 yk,.int .i64 yn,.string ys,.slice ya yl.length yc] 24)) ((Mv.refl _ _).alloc _));generalize bM f (ae.mk yk yn ys (.slice ya yl.length yc) yl).t=bv at *;clear hcc aX;go_wp2_with fail;refine HC.out.mono ?_;rintro e w5 ⟨rfl,hg5⟩;have aS:=ł (Mv.trans aA.out hg5 (fun _ e=>e.elim));have bP:=ł (Mv.trans dL.out hg5 (fun _ e=>e.elim));clear hg5;cases bv with
    | true =>
     have aU:=ł (HST.out rfl);go_wp2_with fail
     go_roundw
     case rel=>exact ⟨j+1,by go_num,by omega,aU.out,aS.out⟩
     case measure=>simp [intOf];omega
    | false =>
     have HR:=ł (show bM f (.mk k n s (ae.ts l))=false from by rw [bA.out,bF.out rfl]);go_wp2_with fail;go_ret;exact ⟨aD HR.out.symm,bP.out⟩
  obtain rfl:j=l.length:=by omega
  have HR:=ł (show bM f (.mk k n s (ae.ts l))=true from by
   rw [bA.out,tN];refine List.all_eq_true.2 fun t ht => ?_;rw [ae.dP] at ht;obtain ⟨x,hx,rfl⟩:=List.mem_map.1 ht;obtain ⟨i,hi,rfl⟩:=List.mem_iff_getElem.1 hx;exact bT.out i hi hi)
  go_wp2_with fail;go_ret;exact ⟨aD HR.out.symm,aQ.out⟩
theorem Vy (sv:Value) (f:az) (x:ae) (w:World) (hf:fF w sv f) (hx:aV w x) :
 Calls Tryz.prog 70 #[x.val,.agg #[sv,.int .i64 f.cells,.int .i64 f.stacks]] w (jN w (bM f x.t)):=Vx sv f _ x (Nat.le_refl _) w hf hx
end Go.Proofs.YtnobahchcongnaaGreatDoor
