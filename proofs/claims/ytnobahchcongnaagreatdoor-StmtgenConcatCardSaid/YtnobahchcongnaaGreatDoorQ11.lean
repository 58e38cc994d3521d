import Derived.Test.YtnobahchcongnaaGreatDoorQ10
set_option linter.unusedSimpArgs false
set_option linter.unusedVariables false
set_option maxRecDepth 100000
set_option maxHeartbeats 25600000
namespace Go.Proofs.YtnobahchcongnaaGreatDoor
open Go.RowKit Go.Instr
mutual
def aO (f:az) (procs:List cB):Tree→Bool
 | .mk k _ s l =>
  if k=2∨k=54 then (au f s 1).isSome && fP f procs l
  else if k=3 then (au f s 2).isSome && fP f procs l
  else if k=4∨k=5∨k=44∨k=45∨k=55 then (au f s 3).isSome && fP f procs l
  else if k=50∨k=51 then um f procs s l
  else fP f procs l
def fP (f:az) (procs:List cB):List Tree→Bool
 | []=>true
 | t :: l=>(t.kind == 57 || aO f procs t) && fP f procs l
end
theorem kI (f:az) (procs:List cB) (l:List Tree):fP f procs l=l.all fun t=>t.kind == 57 || aO f procs t:=by
 induction l with
 | nil=>rw [fP];rfl
 | cons t l ih=>rw [fP,ih];rfl
theorem Wx (sv pv:Value) (f:az) (procs:List aj):∀ (m:Nat) (x:ae),SizeOf.sizeOf x≤m→∀ w:World,fF w sv f→lQ w pv procs→aV w x →
 Calls Tryz.prog 76 #[.agg #[sv,.int .i64 f.cells,.int .i64 f.stacks,pv],x.val] w (jN w (aO f (procs.map aj.d) x.t)):=by
 intro m
 induction m with
 | zero=>intro x hm;cases x;simp at hm
 | succ m ih =>
  intro x hm w hf hp hx;obtain ⟨k,n,s,kv,l⟩:=x;obtain ⟨a,cap,rfl,hcap,hlen⟩:=hx.form;obtain ⟨fa,fc,rfl,hfc,hfl⟩:=hf.row.form;obtain ⟨ga,gc,rfl,hgc,hgl⟩:=hp.row.form;have fG:=ł (fun (y:ae) (hy:y∈l) (w':World) (hg:Grow w w')=>ih y (by have:=nV (k:=k) (n:=n) (s:=s) (kv := .slice a l.length cap) hy;omega) w' (hf.later hg) (hp.later hg) ((hx.row.2.2.2.2 y hy).later hg));have HF:=ł hf;have HP:=ł hp;have HX:=ł hx;clear ih hm hf hp hx;simp only [ae.val,ae.t];by_cases h2:k=2
  · subst h2;have hg1:Grow w ((w.alloc (.cells #[.slice fa f.slots.length fc,.int .i64 f.cells,.int .i64 f.stacks,.slice ga procs.length gc] 62)).alloc (.cells #[.int .u8 2,.int .i64 n,.string s,.slice a l.length cap] 24)):=((Mv.refl _ _).alloc _).alloc _;have hU:=aT (heap_alloc_new w (.cells #[.slice fa f.slots.length fc,.int .i64 f.cells,.int .i64 f.stacks,.slice ga procs.length gc] 62)) (.cells #[.int .u8 2,.int .i64 n,.string s,.slice a l.length cap] 24);have hN:=heap_alloc_new (w.alloc (.cells #[.slice fa f.slots.length fc,.int .i64 f.cells,.int .i64 f.stacks,.slice ga procs.length gc] 62)) (.cells #[.int .u8 2,.int .i64 n,.string s,.slice a l.length cap] 24);rw [World.size_alloc] at hN;have bJ:=ł hg1;have HU:=ł hU;have HN:=ł hN;clear hg1 hU hN;have dQ:=ł (uW (.slice fa f.slots.length fc) (.slice ga procs.length gc) f s 1 ((w.alloc (.cells #[.slice fa f.slots.length fc,.int .i64 f.cells,.int .i64 f.stacks,.slice ga procs.length gc] 62)).alloc (.cells #[.int .u8 2,.int .i64 n,.string s,.slice a l.length cap] 24)) (HF.out.later bJ.out) ga procs.length gc rfl);have bA:=ł (show (au f s 1).isSome=true→aO f (procs.map aj.d) (.mk 2 n s (ae.ts l))=fP f (procs.map aj.d) (ae.ts l) from fun h=>by simp [aO,h]);have jv:=ł (show (au f s 1).isSome=false→aO f (procs.map aj.d) (.mk 2 n s (ae.ts l))=false from fun h=>by simp [aO,h])
    go_enter Tryz.func76,Tryz.ntmps76
    go_wp2_with fail;generalize ((w.alloc (.cells #[.slice fa f.slots.length fc,.int .i64 f.cells,.int .i64 f.stacks,.slice ga procs.length gc] 62)).alloc (.cells #[.int .u8 2,.int .i64 n,.string s,.slice a l.length cap] 24))=w1 at *;refine dQ.out.mono ?_;rintro e w2 ⟨rfl,hg2⟩;have dK:=ł (Mv.trans bJ.out hg2 (fun _ e=>e.elim));have gL:=ł (ai HU.out hg2);have bX:=ai HN.out hg2;obtain ⟨⟨n0,n1⟩,n2,n3⟩:=aF bX;have hln:=lt_of_block bX;generalize (au f s 1).isSome=pb at *;clear hg2 bX dQ;cases pb with
    | false =>
     have HR:=ł (jv.out rfl);go_wp2_with fail;go_ret;exact ⟨aD HR.out.symm,dK.out⟩
    | true =>
    have fe:=ł (bA.out rfl);clear bA;have bA:=fe;clear fe;go_wp2_with fail;clear n0 n1 n2 n3 hln
    go_loopw [44] (fun t wr=>∃ j:Nat,t = .int .i64 j∧j≤l.length∧(∀ i (h1:i<l.length),i<j→(l[i].t.kind == 57 || aO f (procs.map aj.d) l[i].t)=true)∧Grow w2 wr) (fun t _=>l.length - (intOf t).toNat)
    case atStart=>exact ⟨0,rfl,Nat.zero_le _,fun i _ h=>by omega,Mv.refl _ _⟩
    obtain ⟨j,rfl,hj,hall,hgr⟩:=hrel;have bT:=ł hall;have bV:=ł hgr;have aQ:=ł (Mv.trans dK.out hgr (fun _ e=>e.elim));have bO:=ai gL.out hgr;obtain ⟨⟨u0,u1⟩,u2,u3⟩:=aF bO;have jg:=lt_of_block bO;clear hall hgr bO;by_cases hlt:j<l.length
    · obtain ⟨b,off,cap',e,_,hcc⟩:=(HX.out.row.2.2.2.1.later aQ.out).at hlt;simp only [Value.slice.injEq,true_and] at e;obtain ⟨rfl,rfl⟩:=e;have aX:=HX.out.row.2.2.2.2 l[j] (List.getElem_mem hlt);have HI:=ł (fun w' (h:Grow wr w')=>fG.out l[j] (List.getElem_mem hlt) w' (Mv.trans aQ.out h (fun _ e=>e.elim)));have HST:=ł (show ((l[j].t.kind == 57 || aO f (procs.map aj.d) l[j].t)=true→∀ i (h1:i<l.length),i<j+1→(l[i].t.kind == 57 || aO f (procs.map aj.d) l[i].t)=true) from fun h i h1 hij=>by
       rcases Nat.lt_or_ge i j with h3 | h3
       · exact bT.out i h1 h3
       · obtain rfl:i=j:=by omega
         exact h)
      have bF:=ł (show ((l[j].t.kind == 57 || aO f (procs.map aj.d) l[j].t)=false→fP f (procs.map aj.d) (ae.ts l)=false) from fun h=>by
       rw [kI];exact List.all_eq_false.2 ⟨l[j].t,by rw [ae.dP];exact List.mem_map.2 ⟨l[j],List.getElem_mem hlt,rfl⟩,by rw [h];simp⟩)
      generalize l[j]=y at HST bF HI aX hcc;obtain ⟨yk,yn,ys,jf,yl⟩:=y;obtain ⟨ya,yc,rfl,-,-⟩:=aX.form;simp only [ae.val] at HI;have c0:=hcc 0 _ rfl;have c1:=hcc 1 _ rfl;have c2:=hcc 2 _ rfl;have c3:=hcc 3 _ rfl;simp only [Nat.add_zero] at c0;have hbl:b<wr.heap.size:=World.block_lt_of_cell? wr _ c0;have aA:=ł (bV.out.alloc (.cells #[.int .u8 yk,.int .i64 yn,.string ys,.slice ya yl.length yc] 24));have dL:=ł (aQ.out.alloc (.cells #[.int .u8 yk,.int .i64 yn,.string ys,.slice ya yl.length yc] 24));have HK:=ł (show (ae.mk yk yn ys (.slice ya yl.length yc) yl).t.kind=yk from by simp [ae.t,Tree.kind]);rw [HK.out] at HST bF;by_cases fq:yk=57
      · subst fq;have aU:=ł (HST.out (by simp));clear hcc aX;go_wp2_with fail
        go_roundw
        case rel=>exact ⟨j+1,by go_num,by omega,aU.out,aA.out⟩
        case measure=>simp [intOf];omega
      · have hkn:(yk != 57)=true:=by simpa using fq
        have hkn2:(yk == 57)=false:=by simpa using fq
        have HC:=ł (HI.out (wr.alloc (.cells #[.int .u8 yk,.int .i64 yn,.string ys,.slice ya yl.length yc] 24)) ((Mv.refl _ _).alloc _));rw [hkn2,Bool.false_or] at HST bF;generalize aO f (procs.map aj.d) (ae.mk yk yn ys (.slice ya yl.length yc) yl).t=bv at *;clear hcc aX;go_wp2_with fail;refine HC.out.mono ?_;rintro e w5 ⟨rfl,hg5⟩;have aS:=ł (Mv.trans aA.out hg5 (fun _ e=>e.elim));have bP:=ł (Mv.trans dL.out hg5 (fun _ e=>e.elim));clear hg5;cases bv with
        | true =>
         have aU:=ł (HST.out rfl);go_wp2_with fail
         go_roundw
         case rel=>exact ⟨j+1,by go_num,by omega,aU.out,aS.out⟩
         case measure=>simp [intOf];omega
        | false =>
         have HR:=ł (show aO f (procs.map aj.d) (.mk 2 n s (ae.ts l))=false from by rw [bA.out,bF.out rfl]);go_wp2_with fail;go_ret;exact ⟨aD HR.out.symm,bP.out⟩
    obtain rfl:j=l.length:=by omega
    have HR:=ł (show aO f (procs.map aj.d) (.mk 2 n s (ae.ts l))=true from by
     rw [bA.out,kI];refine List.all_eq_true.2 fun t ht => ?_;rw [ae.dP] at ht;obtain ⟨x,hx,rfl⟩:=List.mem_map.1 ht;obtain ⟨i,hi,rfl⟩:=List.mem_iff_getElem.1 hx;exact bT.out i hi hi)
    go_wp2_with fail;go_ret;exact ⟨aD HR.out.symm,aQ.out⟩
  by_cases mK:k=54
  · subst mK;have hg1:Grow w ((w.alloc (.cells #[.slice fa f.slots.length fc,.int .i64 f.cells,.int .i64 f.stacks,.slice ga procs.length gc] 62)).alloc (.cells #[.int .u8 54,.int .i64 n,.string s,.slice a l.length cap] 24)):=((Mv.refl _ _).alloc _).alloc _;have hU:=aT (heap_alloc_new w (.cells #[.slice fa f.slots.length fc,.int .i64 f.cells,.int .i64 f.stacks,.slice ga procs.length gc] 62)) (.cells #[.int .u8 54,.int .i64 n,.string s,.slice a l.length cap] 24);have hN:=heap_alloc_new (w.alloc (.cells #[.slice fa f.slots.length fc,.int .i64 f.cells,.int .i64 f.stacks,.slice ga procs.length gc] 62)) (.cells #[.int .u8 54,.int .i64 n,.string s,.slice a l.length cap] 24);rw [World.size_alloc] at hN;have bJ:=ł hg1;have HU:=ł hU;have HN:=ł hN;clear hg1 hU hN;have dQ:=ł (uW (.slice fa f.slots.length fc) (.slice ga procs.length gc) f s 1 ((w.alloc (.cells #[.slice fa f.slots.length fc,.int .i64 f.cells,.int .i64 f.stacks,.slice ga procs.length gc] 62)).alloc (.cells #[.int .u8 54,.int .i64 n,.string s,.slice a l.length cap] 24)) (HF.out.later bJ.out) ga procs.length gc rfl);have bA:=ł (show (au f s 1).isSome=true→aO f (procs.map aj.d) (.mk 54 n s (ae.ts l))=fP f (procs.map aj.d) (ae.ts l) from fun h=>by simp [aO,h]);have jv:=ł (show (au f s 1).isSome=false→aO f (procs.map aj.d) (.mk 54 n s (ae.ts l))=false from fun h=>by simp [aO,h])
    go_enter Tryz.func76,Tryz.ntmps76
    go_wp2_with fail;generalize ((w.alloc (.cells #[.slice fa f.slots.length fc,.int .i64 f.cells,.int .i64 f.stacks,.slice ga procs.length gc] 62)).alloc (.cells #[.int .u8 54,.int .i64 n,.string s,.slice a l.length cap] 24))=w1 at *;refine dQ.out.mono ?_;rintro e w2 ⟨rfl,hg2⟩;have dK:=ł (Mv.trans bJ.out hg2 (fun _ e=>e.elim));have gL:=ł (ai HU.out hg2);have bX:=ai HN.out hg2;obtain ⟨⟨n0,n1⟩,n2,n3⟩:=aF bX;have hln:=lt_of_block bX;generalize (au f s 1).isSome=pb at *;clear hg2 bX dQ;cases pb with
    | false =>
     have HR:=ł (jv.out rfl);go_wp2_with fail;go_ret;exact ⟨aD HR.out.symm,dK.out⟩
    | true =>
    have fe:=ł (bA.out rfl);clear bA;have bA:=fe;clear fe;go_wp2_with fail;clear n0 n1 n2 n3 hln
    go_loopw [44] (fun t wr=>∃ j:Nat,t = .int .i64 j∧j≤l.length∧(∀ i (h1:i<l.length),i<j→(l[i].t.kind == 57 || aO f (procs.map aj.d) l[i].t)=true)∧Grow w2 wr) (fun t _=>l.length - (intOf t).toNat)
    case atStart=>exact ⟨0,rfl,Nat.zero_le _,fun i _ h=>by omega,Mv.refl _ _⟩
    obtain ⟨j,rfl,hj,hall,hgr⟩:=hrel;have bT:=ł hall;have bV:=ł hgr;have aQ:=ł (Mv.trans dK.out hgr (fun _ e=>e.elim));have bO:=ai gL.out hgr;obtain ⟨⟨u0,u1⟩,u2,u3⟩:=aF bO;have jg:=lt_of_block bO;clear hall hgr bO;by_cases hlt:j<l.length
    · obtain ⟨b,off,cap',e,_,hcc⟩:=(HX.out.row.2.2.2.1.later aQ.out).at hlt;simp only [Value.slice.injEq,true_and] at e;obtain ⟨rfl,rfl⟩:=e;have aX:=HX.out.row.2.2.2.2 l[j] (List.getElem_mem hlt);have HI:=ł (fun w' (h:Grow wr w')=>fG.out l[j] (List.getElem_mem hlt) w' (Mv.trans aQ.out h (fun _ e=>e.elim)));have HST:=ł (show ((l[j].t.kind == 57 || aO f (procs.map aj.d) l[j].t)=true→∀ i (h1:i<l.length),i<j+1→(l[i].t.kind == 57 || aO f (procs.map aj.d) l[i].t)=true) from fun h i h1 hij=>by
       rcases Nat.lt_or_ge i j with h3 | h3
       · exact bT.out i h1 h3
       · obtain rfl:i=j:=by omega
         exact h)
      have bF:=ł (show ((l[j].t.kind == 57 || aO f (procs.map aj.d) l[j].t)=false→fP f (procs.map aj.d) (ae.ts l)=false) from fun h=>by
       rw [kI];exact List.all_eq_false.2 ⟨l[j].t,by rw [ae.dP];exact List.mem_map.2 ⟨l[j],List.getElem_mem hlt,rfl⟩,by rw [h];simp⟩)
      generalize l[j]=y at HST bF HI aX hcc;obtain ⟨yk,yn,ys,jf,yl⟩:=y;obtain ⟨ya,yc,rfl,-,-⟩:=aX.form;simp only [ae.val] at HI;have c0:=hcc 0 _ rfl;have c1:=hcc 1 _ rfl;have c2:=hcc 2 _ rfl;have c3:=hcc 3 _ rfl;simp only [Nat.add_zero] at c0;have hbl:b<wr.heap.size:=World.block_lt_of_cell? wr _ c0;have aA:=ł (bV.out.alloc (.cells #[.int .u8 yk,.int .i64 yn,.string ys,.slice ya yl.length yc] 24));have dL:=ł (aQ.out.alloc (.cells #[.int .u8 yk,.int .i64 yn,.string ys,.slice ya yl.length yc] 24));have HK:=ł (show (ae.mk yk yn ys (.slice ya yl.length yc) yl).t.kind=yk from by simp [ae.t,Tree.kind]);rw [HK.out] at HST bF;by_cases fq:yk=57
      · subst fq;have aU:=ł (HST.out (by simp));clear hcc aX;go_wp2_with fail
        go_roundw
        case rel=>exact ⟨j+1,by go_num,by omega,aU.out,aA.out⟩
        case measure=>simp [intOf];omega
      · have hkn:(yk != 57)=true:=by simpa using fq
        have hkn2:(yk == 57)=false:=by simpa using fq
        have HC:=ł (HI.out (wr.alloc (.cells #[.int .u8 yk,.int .i64 yn,.string ys,.slice ya yl.length yc] 24)) ((Mv.refl _ _).alloc _));rw [hkn2,Bool.false_or] at HST bF;generalize aO f (procs.map aj.d) (ae.mk yk yn ys (.slice ya yl.length yc) yl).t=bv at *;clear hcc aX;go_wp2_with fail;refine HC.out.mono ?_;rintro e w5 ⟨rfl,hg5⟩;have aS:=ł (Mv.trans aA.out hg5 (fun _ e=>e.elim));have bP:=ł (Mv.trans dL.out hg5 (fun _ e=>e.elim));clear hg5;cases bv with
        | true =>
         have aU:=ł (HST.out rfl);go_wp2_with fail
         go_roundw
         case rel=>exact ⟨j+1,by go_num,by omega,aU.out,aS.out⟩
         case measure=>simp [intOf];omega
        | false =>
         have HR:=ł (show aO f (procs.map aj.d) (.mk 54 n s (ae.ts l))=false from by rw [bA.out,bF.out rfl]);go_wp2_with fail;go_ret;exact ⟨aD HR.out.symm,bP.out⟩
    obtain rfl:j=l.length:=by omega
    have HR:=ł (show aO f (procs.map aj.d) (.mk 54 n s (ae.ts l))=true from by
     rw [bA.out,kI];refine List.all_eq_true.2 fun t ht => ?_;rw [ae.dP] at ht;obtain ⟨x,hx,rfl⟩:=List.mem_map.1 ht;obtain ⟨i,hi,rfl⟩:=List.mem_iff_getElem.1 hx;exact bT.out i hi hi)
    go_wp2_with fail;go_ret;exact ⟨aD HR.out.symm,aQ.out⟩
  by_cases h3:k=3
  · subst h3;have hg1:Grow w ((w.alloc (.cells #[.slice fa f.slots.length fc,.int .i64 f.cells,.int .i64 f.stacks,.slice ga procs.length gc] 62)).alloc (.cells #[.int .u8 3,.int .i64 n,.string s,.slice a l.length cap] 24)):=((Mv.refl _ _).alloc _).alloc _;have hU:=aT (heap_alloc_new w (.cells #[.slice fa f.slots.length fc,.int .i64 f.cells,.int .i64 f.stacks,.slice ga procs.length gc] 62)) (.cells #[.int .u8 3,.int .i64 n,.string s,.slice a l.length cap] 24);have hN:=heap_alloc_new (w.alloc (.cells #[.slice fa f.slots.length fc,.int .i64 f.cells,.int .i64 f.stacks,.slice ga procs.length gc] 62)) (.cells #[.int .u8 3,.int .i64 n,.string s,.slice a l.length cap] 24);rw [World.size_alloc] at hN;have bJ:=ł hg1;have HU:=ł hU;have HN:=ł hN;clear hg1 hU hN;have dQ:=ł (uW (.slice fa f.slots.length fc) (.slice ga procs.length gc) f s 2 ((w.alloc (.cells #[.slice fa f.slots.length fc,.int .i64 f.cells,.int .i64 f.stacks,.slice ga procs.length gc] 62)).alloc (.cells #[.int .u8 3,.int .i64 n,.string s,.slice a l.length cap] 24)) (HF.out.later bJ.out) ga procs.length gc rfl);have bA:=ł (show (au f s 2).isSome=true→aO f (procs.map aj.d) (.mk 3 n s (ae.ts l))=fP f (procs.map aj.d) (ae.ts l) from fun h=>by simp [aO,h]);have jv:=ł (show (au f s 2).isSome=false→aO f (procs.map aj.d) (.mk 3 n s (ae.ts l))=false from fun h=>by simp [aO,h])
    go_enter Tryz.func76,Tryz.ntmps76
    go_wp2_with fail;generalize ((w.alloc (.cells #[.slice fa f.slots.length fc,.int .i64 f.cells,.int .i64 f.stacks,.slice ga procs.length gc] 62)).alloc (.cells #[.int .u8 3,.int .i64 n,.string s,.slice a l.length cap] 24))=w1 at *;refine dQ.out.mono ?_;rintro e w2 ⟨rfl,hg2⟩;have dK:=ł (Mv.trans bJ.out hg2 (fun _ e=>e.elim));have gL:=ł (ai HU.out hg2);have bX:=ai HN.out hg2;obtain ⟨⟨n0,n1⟩,n2,n3⟩:=aF bX;have hln:=lt_of_block bX;generalize (au f s 2).isSome=pb at *;clear hg2 bX dQ;cases pb with
    | false =>
     have HR:=ł (jv.out rfl);go_wp2_with fail;go_ret;exact ⟨aD HR.out.symm,dK.out⟩
    | true =>
    have fe:=ł (bA.out rfl);clear bA;have bA:=fe;clear fe;go_wp2_with fail;clear n0 n1 n2 n3 hln
    go_loopw [44] (fun t wr=>∃ j:Nat,t = .int .i64 j∧j≤l.length∧(∀ i (h1:i<l.length),i<j→(l[i].t.kind == 57 || aO f (procs.map aj.d) l[i].t)=true)∧Grow w2 wr) (fun t _=>l.length - (intOf t).toNat)
    case atStart=>exact ⟨0,rfl,Nat.zero_le _,fun i _ h=>by omega,Mv.refl _ _⟩
    obtain ⟨j,rfl,hj,hall,hgr⟩:=hrel;have bT:=ł hall;have bV:=ł hgr;have aQ:=ł (Mv.trans dK.out hgr (fun _ e=>e.elim));have bO:=ai gL.out hgr;obtain ⟨⟨u0,u1⟩,u2,u3⟩:=aF bO;have jg:=lt_of_block bO;clear hall hgr bO;by_cases hlt:j<l.length
    · obtain ⟨b,off,cap',e,_,hcc⟩:=(HX.out.row.2.2.2.1.later aQ.out).at hlt;simp only [Value.slice.injEq,true_and] at e;obtain ⟨rfl,rfl⟩:=e;have aX:=HX.out.row.2.2.2.2 l[j] (List.getElem_mem hlt);have HI:=ł (fun w' (h:Grow wr w')=>fG.out l[j] (List.getElem_mem hlt) w' (Mv.trans aQ.out h (fun _ e=>e.elim)));have HST:=ł (show ((l[j].t.kind == 57 || aO f (procs.map aj.d) l[j].t)=true→∀ i (h1:i<l.length),i<j+1→(l[i].t.kind == 57 || aO f (procs.map aj.d) l[i].t)=true) from fun h i h1 hij=>by
       rcases Nat.lt_or_ge i j with h3 | h3
       · exact bT.out i h1 h3
       · obtain rfl:i=j:=by omega
         exact h)
      have bF:=ł (show ((l[j].t.kind == 57 || aO f (procs.map aj.d) l[j].t)=false→fP f (procs.map aj.d) (ae.ts l)=false) from fun h=>by
       rw [kI];exact List.all_eq_false.2 ⟨l[j].t,by rw [ae.dP];exact List.mem_map.2 ⟨l[j],List.getElem_mem hlt,rfl⟩,by rw [h];simp⟩)
      generalize l[j]=y at HST bF HI aX hcc;obtain ⟨yk,yn,ys,jf,yl⟩:=y;obtain ⟨ya,yc,rfl,-,-⟩:=aX.form;simp only [ae.val] at HI;have c0:=hcc 0 _ rfl;have c1:=hcc 1 _ rfl;have c2:=hcc 2 _ rfl;have c3:=hcc 3 _ rfl;simp only [Nat.add_zero] at c0;have hbl:b<wr.heap.size:=World.block_lt_of_cell? wr _ c0;have aA:=ł (bV.out.alloc (.cells #[.int .u8 yk,.int .i64 yn,.string ys,.slice ya yl.length yc] 24));have dL:=ł (aQ.out.alloc (.cells #[.int .u8 yk,.int .i64 yn,.string ys,.slice ya yl.length yc] 24));have HK:=ł (show (ae.mk yk yn ys (.slice ya yl.length yc) yl).t.kind=yk from by simp [ae.t,Tree.kind]);rw [HK.out] at HST bF;by_cases fq:yk=57
      · subst fq;have aU:=ł (HST.out (by simp));clear hcc aX;go_wp2_with fail
        go_roundw
        case rel=>exact ⟨j+1,by go_num,by omega,aU.out,aA.out⟩
        case measure=>simp [intOf];omega
      · have hkn:(yk != 57)=true:=by simpa using fq
        have hkn2:(yk == 57)=false:=by simpa using fq
        have HC:=ł (HI.out (wr.alloc (.cells #[.int .u8 yk,.int .i64 yn,.string ys,.slice ya yl.length yc] 24)) ((Mv.refl _ _).alloc _));rw [hkn2,Bool.false_or] at HST bF;generalize aO f (procs.map aj.d) (ae.mk yk yn ys (.slice ya yl.length yc) yl).t=bv at *;clear hcc aX;go_wp2_with fail;refine HC.out.mono ?_;rintro e w5 ⟨rfl,hg5⟩;have aS:=ł (Mv.trans aA.out hg5 (fun _ e=>e.elim));have bP:=ł (Mv.trans dL.out hg5 (fun _ e=>e.elim));clear hg5;cases bv with
        | true =>
         have aU:=ł (HST.out rfl);go_wp2_with fail
         go_roundw
         case rel=>exact ⟨j+1,by go_num,by omega,aU.out,aS.out⟩
         case measure=>simp [intOf];omega
        | false =>
         have HR:=ł (show aO f (procs.map aj.d) (.mk 3 n s (ae.ts l))=false from by rw [bA.out,bF.out rfl]);go_wp2_with fail;go_ret;exact ⟨aD HR.out.symm,bP.out⟩
    obtain rfl:j=l.length:=by omega
    have HR:=ł (show aO f (procs.map aj.d) (.mk 3 n s (ae.ts l))=true from by
     rw [bA.out,kI];refine List.all_eq_true.2 fun t ht => ?_;rw [ae.dP] at ht;obtain ⟨x,hx,rfl⟩:=List.mem_map.1 ht;obtain ⟨i,hi,rfl⟩:=List.mem_iff_getElem.1 hx;exact bT.out i hi hi)
    go_wp2_with fail;go_ret;exact ⟨aD HR.out.symm,aQ.out⟩
  by_cases h4:k=4
  · subst h4;have hg1:Grow w ((w.alloc (.cells #[.slice fa f.slots.length fc,.int .i64 f.cells,.int .i64 f.stacks,.slice ga procs.length gc] 62)).alloc (.cells #[.int .u8 4,.int .i64 n,.string s,.slice a l.length cap] 24)):=((Mv.refl _ _).alloc _).alloc _;have hU:=aT (heap_alloc_new w (.cells #[.slice fa f.slots.length fc,.int .i64 f.cells,.int .i64 f.stacks,.slice ga procs.length gc] 62)) (.cells #[.int .u8 4,.int .i64 n,.string s,.slice a l.length cap] 24);have hN:=heap_alloc_new (w.alloc (.cells #[.slice fa f.slots.length fc,.int .i64 f.cells,.int .i64 f.stacks,.slice ga procs.length gc] 62)) (.cells #[.int .u8 4,.int .i64 n,.string s,.slice a l.length cap] 24);rw [World.size_alloc] at hN;have bJ:=ł hg1;have HU:=ł hU;have HN:=ł hN;clear hg1 hU hN;have dQ:=ł (uW (.slice fa f.slots.length fc) (.slice ga procs.length gc) f s 3 ((w.alloc (.cells #[.slice fa f.slots.length fc,.int .i64 f.cells,.int .i64 f.stacks,.slice ga procs.length gc] 62)).alloc (.cells #[.int .u8 4,.int .i64 n,.string s,.slice a l.length cap] 24)) (HF.out.later bJ.out) ga procs.length gc rfl);have bA:=ł (show (au f s 3).isSome=true→aO f (procs.map aj.d) (.mk 4 n s (ae.ts l))=fP f (procs.map aj.d) (ae.ts l) from fun h=>by simp [aO,h]);have jv:=ł (show (au f s 3).isSome=false→aO f (procs.map aj.d) (.mk 4 n s (ae.ts l))=false from fun h=>by simp [aO,h])
    go_enter Tryz.func76,Tryz.ntmps76
    go_wp2_with fail;generalize ((w.alloc (.cells #[.slice fa f.slots.length fc,.int .i64 f.cells,.int .i64 f.stacks,.slice ga procs.length gc] 62)).alloc (.cells #[.int .u8 4,.int .i64 n,.string s,.slice a l.length cap] 24))=w1 at *;refine dQ.out.mono ?_;rintro e w2 ⟨rfl,hg2⟩;have dK:=ł (Mv.trans bJ.out hg2 (fun _ e=>e.elim));have gL:=ł (ai HU.out hg2);have bX:=ai HN.out hg2;obtain ⟨⟨n0,n1⟩,n2,n3⟩:=aF bX;have hln:=lt_of_block bX;generalize (au f s 3).isSome=pb at *;clear hg2 bX dQ;cases pb with
    | false =>
     have HR:=ł (jv.out rfl);go_wp2_with fail;go_ret;exact ⟨aD HR.out.symm,dK.out⟩
    | true =>
    have fe:=ł (bA.out rfl);clear bA;have bA:=fe;clear fe;go_wp2_with fail;clear n0 n1 n2 n3 hln
    go_loopw [44] (fun t wr=>∃ j:Nat,t = .int .i64 j∧j≤l.length∧(∀ i (h1:i<l.length),i<j→(l[i].t.kind == 57 || aO f (procs.map aj.d) l[i].t)=true)∧Grow w2 wr) (fun t _=>l.length - (intOf t).toNat)
    case atStart=>exact ⟨0,rfl,Nat.zero_le _,fun i _ h=>by omega,Mv.refl _ _⟩
    obtain ⟨j,rfl,hj,hall,hgr⟩:=hrel;have bT:=ł hall;have bV:=ł hgr;have aQ:=ł (Mv.trans dK.out hgr (fun _ e=>e.elim));have bO:=ai gL.out hgr;obtain ⟨⟨u0,u1⟩,u2,u3⟩:=aF bO;have jg:=lt_of_block bO;clear hall hgr bO;by_cases hlt:j<l.length
    · obtain ⟨b,off,cap',e,_,hcc⟩:=(HX.out.row.2.2.2.1.later aQ.out).at hlt;simp only [Value.slice.injEq,true_and] at e;obtain ⟨rfl,rfl⟩:=e;have aX:=HX.out.row.2.2.2.2 l[j] (List.getElem_mem hlt);have HI:=ł (fun w' (h:Grow wr w')=>fG.out l[j] (List.getElem_mem hlt) w' (Mv.trans aQ.out h (fun _ e=>e.elim)));have HST:=ł (show ((l[j].t.kind == 57 || aO f (procs.map aj.d) l[j].t)=true→∀ i (h1:i<l.length),i<j+1→(l[i].t.kind == 57 || aO f (procs.map aj.d) l[i].t)=true) from fun h i h1 hij=>by
       rcases Nat.lt_or_ge i j with h3 | h3
       · exact bT.out i h1 h3
       · obtain rfl:i=j:=by omega
         exact h)
      have bF:=ł (show ((l[j].t.kind == 57 || aO f (procs.map aj.d) l[j].t)=false→fP f (procs.map aj.d) (ae.ts l)=false) from fun h=>by
       rw [kI];exact List.all_eq_false.2 ⟨l[j].t,by rw [ae.dP];exact List.mem_map.2 ⟨l[j],List.getElem_mem hlt,rfl⟩,by rw [h];simp⟩)
      generalize l[j]=y at HST bF HI aX hcc;obtain ⟨yk,yn,ys,jf,yl⟩:=y;obtain ⟨ya,yc,rfl,-,-⟩:=aX.form;simp only [ae.val] at HI;have c0:=hcc 0 _ rfl;have c1:=hcc 1 _ rfl;have c2:=hcc 2 _ rfl;have c3:=hcc 3 _ rfl;simp only [Nat.add_zero] at c0;have hbl:b<wr.heap.size:=World.block_lt_of_cell? wr _ c0;have aA:=ł (bV.out.alloc (.cells #[.int .u8 yk,.int .i64 yn,.string ys,.slice ya yl.length yc] 24));have dL:=ł (aQ.out.alloc (.cells #[.int .u8 yk,.int .i64 yn,.string ys,.slice ya yl.length yc] 24));have HK:=ł (show (ae.mk yk yn ys (.slice ya yl.length yc) yl).t.kind=yk from by simp [ae.t,Tree.kind]);rw [HK.out] at HST bF;by_cases fq:yk=57
      · subst fq;have aU:=ł (HST.out (by simp));clear hcc aX;go_wp2_with fail
        go_roundw
        case rel=>exact ⟨j+1,by go_num,by omega,aU.out,aA.out⟩
        case measure=>simp [intOf];omega
      · have hkn:(yk != 57)=true:=by simpa using fq
        have hkn2:(yk == 57)=false:=by simpa using fq
        have HC:=ł (HI.out (wr.alloc (.cells #[.int .u8 yk,.int .i64 yn,.string ys,.slice ya yl.length yc] 24)) ((Mv.refl _ _).alloc _));rw [hkn2,Bool.false_or] at HST bF;generalize aO f (procs.map aj.d) (ae.mk yk yn ys (.slice ya yl.length yc) yl).t=bv at *;clear hcc aX;go_wp2_with fail;refine HC.out.mono ?_;rintro e w5 ⟨rfl,hg5⟩;have aS:=ł (Mv.trans aA.out hg5 (fun _ e=>e.elim));have bP:=ł (Mv.trans dL.out hg5 (fun _ e=>e.elim));clear hg5;cases bv with
        | true =>
         have aU:=ł (HST.out rfl);go_wp2_with fail
         go_roundw
         case rel=>exact ⟨j+1,by go_num,by omega,aU.out,aS.out⟩
         case measure=>simp [intOf];omega
        | false =>
         have HR:=ł (show aO f (procs.map aj.d) (.mk 4 n s (ae.ts l))=false from by rw [bA.out,bF.out rfl]);go_wp2_with fail;go_ret;exact ⟨aD HR.out.symm,bP.out⟩
    obtain rfl:j=l.length:=by omega
    have HR:=ł (show aO f (procs.map aj.d) (.mk 4 n s (ae.ts l))=true from by
     rw [bA.out,kI];refine List.all_eq_true.2 fun t ht => ?_;rw [ae.dP] at ht;obtain ⟨x,hx,rfl⟩:=List.mem_map.1 ht;obtain ⟨i,hi,rfl⟩:=List.mem_iff_getElem.1 hx;exact bT.out i hi hi)
    go_wp2_with fail;go_ret;exact ⟨aD HR.out.symm,aQ.out⟩
  by_cases h5:k=5
  · subst h5;have hg1:Grow w ((w.alloc (.cells #[.slice fa f.slots.length fc,.int .i64 f.cells,.int .i64 f.stacks,.slice ga procs.length gc] 62)).alloc (.cells #[.int .u8 5,.int .i64 n,.string s,.slice a l.length cap] 24)):=((Mv.refl _ _).alloc _).alloc _;have hU:=aT (heap_alloc_new w (.cells #[.slice fa f.slots.length fc,.int .i64 f.cells,.int .i64 f.stacks,.slice ga procs.length gc] 62)) (.cells #[.int .u8 5,.int .i64 n,.string s,.slice a l.length cap] 24);have hN:=heap_alloc_new (w.alloc (.cells #[.slice fa f.slots.length fc,.int .i64 f.cells,.int .i64 f.stacks,.slice ga procs.length gc] 62)) (.cells #[.int .u8 5,.int .i64 n,.string s,.slice a l.length cap] 24);rw [World.size_alloc] at hN;have bJ:=ł hg1;have HU:=ł hU;have HN:=ł hN;clear hg1 hU hN;have dQ:=ł (uW (.slice fa f.slots.length fc) (.slice ga procs.length gc) f s 3 ((w.alloc (.cells #[.slice fa f.slots.length fc,.int .i64 f.cells,.int .i64 f.stacks,.slice ga procs.length gc] 62)).alloc (.cells #[.int .u8 5,.int .i64 n,.string s,.slice a l.length cap] 24)) (HF.out.later bJ.out) ga procs.length gc rfl);have bA:=ł (show (au f s 3).isSome=true→aO f (procs.map aj.d) (.mk 5 n s (ae.ts l))=fP f (procs.map aj.d) (ae.ts l) from fun h=>by simp [aO,h]);have jv:=ł (show (au f s 3).isSome=false→aO f (procs.map aj.d) (.mk 5 n s (ae.ts l))=false from fun h=>by simp [aO,h])
    go_enter Tryz.func76,Tryz.ntmps76
    go_wp2_with fail;generalize ((w.alloc (.cells #[.slice fa f.slots.length fc,.int .i64 f.cells,.int .i64 f.stacks,.slice ga procs.length gc] 62)).alloc (.cells #[.int .u8 5,.int .i64 n,.string s,.slice a l.length cap] 24))=w1 at *;refine dQ.out.mono ?_;rintro e w2 ⟨rfl,hg2⟩;have dK:=ł (Mv.trans bJ.out hg2 (fun _ e=>e.elim));have gL:=ł (ai HU.out hg2);have bX:=ai HN.out hg2;obtain ⟨⟨n0,n1⟩,n2,n3⟩:=aF bX;have hln:=lt_of_block bX;generalize (au f s 3).isSome=pb at *;clear hg2 bX dQ;cases pb with
    | false =>
     have HR:=ł (jv.out rfl);go_wp2_with fail;go_ret;exact ⟨aD HR.out.symm,dK.out⟩
    | true =>
    have fe:=ł (bA.out rfl);clear bA;have bA:=fe;clear fe;go_wp2_with fail;clear n0 n1 n2 n3 hln
    go_loopw [44] (fun t wr=>∃ j:Nat,t = .int .i64 j∧j≤l.length∧(∀ i (h1:i<l.length),i<j→(l[i].t.kind == 57 || aO f (procs.map aj.d) l[i].t)=true)∧Grow w2 wr) (fun t _=>l.length - (intOf t).toNat)
    case atStart=>exact ⟨0,rfl,Nat.zero_le _,fun i _ h=>by omega,Mv.refl _ _⟩
    obtain ⟨j,rfl,hj,hall,hgr⟩:=hrel;have bT:=ł hall;have bV:=ł hgr;have aQ:=ł (Mv.trans dK.out hgr (fun _ e=>e.elim));have bO:=ai gL.out hgr;obtain ⟨⟨u0,u1⟩,u2,u3⟩:=aF bO;have jg:=lt_of_block bO;clear hall hgr bO;by_cases hlt:j<l.length
    · obtain ⟨b,off,cap',e,_,hcc⟩:=(HX.out.row.2.2.2.1.later aQ.out).at hlt;simp only [Value.slice.injEq,true_and] at e;obtain ⟨rfl,rfl⟩:=e;have aX:=HX.out.row.2.2.2.2 l[j] (List.getElem_mem hlt);have HI:=ł (fun w' (h:Grow wr w')=>fG.out l[j] (List.getElem_mem hlt) w' (Mv.trans aQ.out h (fun _ e=>e.elim)));have HST:=ł (show ((l[j].t.kind == 57 || aO f (procs.map aj.d) l[j].t)=true→∀ i (h1:i<l.length),i<j+1→(l[i].t.kind == 57 || aO f (procs.map aj.d) l[i].t)=true) from fun h i h1 hij=>by
       rcases Nat.lt_or_ge i j with h3 | h3
       · exact bT.out i h1 h3
       · obtain rfl:i=j:=by omega
         exact h)
      have bF:=ł (show ((l[j].t.kind == 57 || aO f (procs.map aj.d) l[j].t)=false→fP f (procs.map aj.d) (ae.ts l)=false) from fun h=>by
       rw [kI];exact List.all_eq_false.2 ⟨l[j].t,by rw [ae.dP];exact List.mem_map.2 ⟨l[j],List.getElem_mem hlt,rfl⟩,by rw [h];simp⟩)
      generalize l[j]=y at HST bF HI aX hcc;obtain ⟨yk,yn,ys,jf,yl⟩:=y;obtain ⟨ya,yc,rfl,-,-⟩:=aX.form;simp only [ae.val] at HI;have c0:=hcc 0 _ rfl;have c1:=hcc 1 _ rfl;have c2:=hcc 2 _ rfl;have c3:=hcc 3 _ rfl;simp only [Nat.add_zero] at c0;have hbl:b<wr.heap.size:=World.block_lt_of_cell? wr _ c0;have aA:=ł (bV.out.alloc (.cells #[.int .u8 yk,.int .i64 yn,.string ys,.slice ya yl.length yc] 24));have dL:=ł (aQ.out.alloc (.cells #[.int .u8 yk,.int .i64 yn,.string ys,.slice ya yl.length yc] 24));have HK:=ł (show (ae.mk yk yn ys (.slice ya yl.length yc) yl).t.kind=yk from by simp [ae.t,Tree.kind]);rw [HK.out] at HST bF;by_cases fq:yk=57
      · subst fq;have aU:=ł (HST.out (by simp));clear hcc aX;go_wp2_with fail
        go_roundw
        case rel=>exact ⟨j+1,by go_num,by omega,aU.out,aA.out⟩
        case measure=>simp [intOf];omega
      · have hkn:(yk != 57)=true:=by simpa using fq
        have hkn2:(yk == 57)=false:=by simpa using fq
        have HC:=ł (HI.out (wr.alloc (.cells #[.int .u8 yk,.int .i64 yn,.string ys,.slice ya yl.length yc] 24)) ((Mv.refl _ _).alloc _));rw [hkn2,Bool.false_or] at HST bF;generalize aO f (procs.map aj.d) (ae.mk yk yn ys (.slice ya yl.length yc) yl).t=bv at *;clear hcc aX;go_wp2_with fail;refine HC.out.mono ?_;rintro e w5 ⟨rfl,hg5⟩;have aS:=ł (Mv.trans aA.out hg5 (fun _ e=>e.elim));have bP:=ł (Mv.trans dL.out hg5 (fun _ e=>e.elim));clear hg5;cases bv with
        | true =>
         have aU:=ł (HST.out rfl);go_wp2_with fail
         go_roundw
         case rel=>exact ⟨j+1,by go_num,by omega,aU.out,aS.out⟩
         case measure=>simp [intOf];omega
        | false =>
         have HR:=ł (show aO f (procs.map aj.d) (.mk 5 n s (ae.ts l))=false from by rw [bA.out,bF.out rfl]);go_wp2_with fail;go_ret;exact ⟨aD HR.out.symm,bP.out⟩
    obtain rfl:j=l.length:=by omega
    have HR:=ł (show aO f (procs.map aj.d) (.mk 5 n s (ae.ts l))=true from by
     rw [bA.out,kI];refine List.all_eq_true.2 fun t ht => ?_;rw [ae.dP] at ht;obtain ⟨x,hx,rfl⟩:=List.mem_map.1 ht;obtain ⟨i,hi,rfl⟩:=List.mem_iff_getElem.1 hx;exact bT.out i hi hi)
    go_wp2_with fail;go_ret;exact ⟨aD HR.out.symm,aQ.out⟩
  by_cases lY:k=44
  · subst lY;have hg1:Grow w ((w.alloc (.cells #[.slice fa f.slots.length fc,.int .i64 f.cells,.int .i64 f.stacks,.slice ga procs.length gc] 62)).alloc (.cells #[.int .u8 44,.int .i64 n,.string s,.slice a l.length cap] 24)):=((Mv.refl _ _).alloc _).alloc _;have hU:=aT (heap_alloc_new w (.cells #[.slice fa f.slots.length fc,.int .i64 f.cells,.int .i64 f.stacks,.slice ga procs.length gc] 62)) (.cells #[.int .u8 44,.int .i64 n,.string s,.slice a l.length cap] 24);have hN:=heap_alloc_new (w.alloc (.cells #[.slice fa f.slots.length fc,.int .i64 f.cells,.int .i64 f.stacks,.slice ga procs.length gc] 62)) (.cells #[.int .u8 44,.int .i64 n,.string s,.slice a l.length cap] 24);rw [World.size_alloc] at hN;have bJ:=ł hg1;have HU:=ł hU;have HN:=ł hN;clear hg1 hU hN;have dQ:=ł (uW (.slice fa f.slots.length fc) (.slice ga procs.length gc) f s 3 ((w.alloc (.cells #[.slice fa f.slots.length fc,.int .i64 f.cells,.int .i64 f.stacks,.slice ga procs.length gc] 62)).alloc (.cells #[.int .u8 44,.int .i64 n,.string s,.slice a l.length cap] 24)) (HF.out.later bJ.out) ga procs.length gc rfl);have bA:=ł (show (au f s 3).isSome=true→aO f (procs.map aj.d) (.mk 44 n s (ae.ts l))=fP f (procs.map aj.d) (ae.ts l) from fun h=>by simp [aO,h]);have jv:=ł (show (au f s 3).isSome=false→aO f (procs.map aj.d) (.mk 44 n s (ae.ts l))=false from fun h=>by simp [aO,h])
    go_enter Tryz.func76,Tryz.ntmps76
    go_wp2_with fail;generalize ((w.alloc (.cells #[.slice fa f.slots.length fc,.int .i64 f.cells,.int .i64 f.stacks,.slice ga procs.length gc] 62)).alloc (.cells #[.int .u8 44,.int .i64 n,.string s,.slice a l.length cap] 24))=w1 at *;refine dQ.out.mono ?_;rintro e w2 ⟨rfl,hg2⟩;have dK:=ł (Mv.trans bJ.out hg2 (fun _ e=>e.elim));have gL:=ł (ai HU.out hg2);have bX:=ai HN.out hg2;obtain ⟨⟨n0,n1⟩,n2,n3⟩:=aF bX;have hln:=lt_of_block bX;generalize (au f s 3).isSome=pb at *;clear hg2 bX dQ;cases pb with
    | false =>
     have HR:=ł (jv.out rfl);go_wp2_with fail;go_ret;exact ⟨aD HR.out.symm,dK.out⟩
    | true =>
    have fe:=ł (bA.out rfl);clear bA;have bA:=fe;clear fe;go_wp2_with fail;clear n0 n1 n2 n3 hln
    go_loopw [44] (fun t wr=>∃ j:Nat,t = .int .i64 j∧j≤l.length∧(∀ i (h1:i<l.length),i<j→(l[i].t.kind == 57 || aO f (procs.map aj.d) l[i].t)=true)∧Grow w2 wr) (fun t _=>l.length - (intOf t).toNat)
    case atStart=>exact ⟨0,rfl,Nat.zero_le _,fun i _ h=>by omega,Mv.refl _ _⟩
    obtain ⟨j,rfl,hj,hall,hgr⟩:=hrel;have bT:=ł hall;have bV:=ł hgr;have aQ:=ł (Mv.trans dK.out hgr (fun _ e=>e.elim));have bO:=ai gL.out hgr;obtain ⟨⟨u0,u1⟩,u2,u3⟩:=aF bO;have jg:=lt_of_block bO;clear hall hgr bO;by_cases hlt:j<l.length
    · obtain ⟨b,off,cap',e,_,hcc⟩:=(HX.out.row.2.2.2.1.later aQ.out).at hlt;simp only [Value.slice.injEq,true_and] at e;obtain ⟨rfl,rfl⟩:=e;have aX:=HX.out.row.2.2.2.2 l[j] (List.getElem_mem hlt);have HI:=ł (fun w' (h:Grow wr w')=>fG.out l[j] (List.getElem_mem hlt) w' (Mv.trans aQ.out h (fun _ e=>e.elim)));have HST:=ł (show ((l[j].t.kind == 57 || aO f (procs.map aj.d) l[j].t)=true→∀ i (h1:i<l.length),i<j+1→(l[i].t.kind == 57 || aO f (procs.map aj.d) l[i].t)=true) from fun h i h1 hij=>by
       rcases Nat.lt_or_ge i j with h3 | h3
       · exact bT.out i h1 h3
       · obtain rfl:i=j:=by omega
         exact h)
      have bF:=ł (show ((l[j].t.kind == 57 || aO f (procs.map aj.d) l[j].t)=false→fP f (procs.map aj.d) (ae.ts l)=false) from fun h=>by
       rw [kI];exact List.all_eq_false.2 ⟨l[j].t,by rw [ae.dP];exact List.mem_map.2 ⟨l[j],List.getElem_mem hlt,rfl⟩,by rw [h];simp⟩)
      generalize l[j]=y at HST bF HI aX hcc;obtain ⟨yk,yn,ys,jf,yl⟩:=y;obtain ⟨ya,yc,rfl,-,-⟩:=aX.form;simp only [ae.val] at HI;have c0:=hcc 0 _ rfl;have c1:=hcc 1 _ rfl;have c2:=hcc 2 _ rfl;have c3:=hcc 3 _ rfl;simp only [Nat.add_zero] at c0;have hbl:b<wr.heap.size:=World.block_lt_of_cell? wr _ c0;have aA:=ł (bV.out.alloc (.cells #[.int .u8 yk,.int .i64 yn,.string ys,.slice ya yl.length yc] 24));have dL:=ł (aQ.out.alloc (.cells #[.int .u8 yk,.int .i64 yn,.string ys,.slice ya yl.length yc] 24));have HK:=ł (show (ae.mk yk yn ys (.slice ya yl.length yc) yl).t.kind=yk from by simp [ae.t,Tree.kind]);rw [HK.out] at HST bF;by_cases fq:yk=57
      · subst fq;have aU:=ł (HST.out (by simp));clear hcc aX;go_wp2_with fail
        go_roundw
        case rel=>exact ⟨j+1,by go_num,by omega,aU.out,aA.out⟩
        case measure=>simp [intOf];omega
      · have hkn:(yk != 57)=true:=by simpa using fq
        have hkn2:(yk == 57)=false:=by simpa using fq
        have HC:=ł (HI.out (wr.alloc (.cells #[.int .u8 yk,.int .i64 yn,.string ys,.slice ya yl.length yc] 24)) ((Mv.refl _ _).alloc _));rw [hkn2,Bool.false_or] at HST bF;generalize aO f (procs.map aj.d) (ae.mk yk yn ys (.slice ya yl.length yc) yl).t=bv at *;clear hcc aX;go_wp2_with fail;refine HC.out.mono ?_;rintro e w5 ⟨rfl,hg5⟩;have aS:=ł (Mv.trans aA.out hg5 (fun _ e=>e.elim));have bP:=ł (Mv.trans dL.out hg5 (fun _ e=>e.elim));clear hg5;cases bv with
        | true =>
         have aU:=ł (HST.out rfl);go_wp2_with fail
         go_roundw
         case rel=>exact ⟨j+1,by go_num,by omega,aU.out,aS.out⟩
         case measure=>simp [intOf];omega
        | false =>
         have HR:=ł (show aO f (procs.map aj.d) (.mk 44 n s (ae.ts l))=false from by rw [bA.out,bF.out rfl]);go_wp2_with fail;go_ret;exact ⟨aD HR.out.symm,bP.out⟩
    obtain rfl:j=l.length:=by omega
    have HR:=ł (show aO f (procs.map aj.d) (.mk 44 n s (ae.ts l))=true from by
     rw [bA.out,kI];refine List.all_eq_true.2 fun t ht => ?_;rw [ae.dP] at ht;obtain ⟨x,hx,rfl⟩:=List.mem_map.1 ht;obtain ⟨i,hi,rfl⟩:=List.mem_iff_getElem.1 hx;exact bT.out i hi hi)
    go_wp2_with fail;go_ret;exact ⟨aD HR.out.symm,aQ.out⟩
  by_cases h45:k=45
  · subst h45;have hg1:Grow w ((w.alloc (.cells #[.slice fa f.slots.length fc,.int .i64 f.cells,.int .i64 f.stacks,.slice ga procs.length gc] 62)).alloc (.cells #[.int .u8 45,.int .i64 n,.string s,.slice a l.length cap] 24)):=((Mv.refl _ _).alloc _).alloc _;have hU:=aT (heap_alloc_new w (.cells #[.slice fa f.slots.length fc,.int .i64 f.cells,.int .i64 f.stacks,.slice ga procs.length gc] 62)) (.cells #[.int .u8 45,.int .i64 n,.string s,.slice a l.length cap] 24);have hN:=heap_alloc_new (w.alloc (.cells #[.slice fa f.slots.length fc,.int .i64 f.cells,.int .i64 f.stacks,.slice ga procs.length gc] 62)) (.cells #[.int .u8 45,.int .i64 n,.string s,.slice a l.length cap] 24);rw [World.size_alloc] at hN;have bJ:=ł hg1;have HU:=ł hU;have HN:=ł hN;clear hg1 hU hN;have dQ:=ł (uW (.slice fa f.slots.length fc) (.slice ga procs.length gc) f s 3 ((w.alloc (.cells #[.slice fa f.slots.length fc,.int .i64 f.cells,.int .i64 f.stacks,.slice ga procs.length gc] 62)).alloc (.cells #[.int .u8 45,.int .i64 n,.string s,.slice a l.length cap] 24)) (HF.out.later bJ.out) ga procs.length gc rfl);have bA:=ł (show (au f s 3).isSome=true→aO f (procs.map aj.d) (.mk 45 n s (ae.ts l))=fP f (procs.map aj.d) (ae.ts l) from fun h=>by simp [aO,h]);have jv:=ł (show (au f s 3).isSome=false→aO f (procs.map aj.d) (.mk 45 n s (ae.ts l))=false from fun h=>by simp [aO,h])
    go_enter Tryz.func76,Tryz.ntmps76
    go_wp2_with fail;generalize ((w.alloc (.cells #[.slice fa f.slots.length fc,.int .i64 f.cells,.int .i64 f.stacks,.slice ga procs.length gc] 62)).alloc (.cells #[.int .u8 45,.int .i64 n,.string s,.slice a l.length cap] 24))=w1 at *;refine dQ.out.mono ?_;rintro e w2 ⟨rfl,hg2⟩;have dK:=ł (Mv.trans bJ.out hg2 (fun _ e=>e.elim));have gL:=ł (ai HU.out hg2);have bX:=ai HN.out hg2;obtain ⟨⟨n0,n1⟩,n2,n3⟩:=aF bX;have hln:=lt_of_block bX;generalize (au f s 3).isSome=pb at *;clear hg2 bX dQ;cases pb with
    | false =>
     have HR:=ł (jv.out rfl);go_wp2_with fail;go_ret;exact ⟨aD HR.out.symm,dK.out⟩
    | true =>
    have fe:=ł (bA.out rfl);clear bA;have bA:=fe;clear fe;go_wp2_with fail;clear n0 n1 n2 n3 hln
    go_loopw [44] (fun t wr=>∃ j:Nat,t = .int .i64 j∧j≤l.length∧(∀ i (h1:i<l.length),i<j→(l[i].t.kind == 57 || aO f (procs.map aj.d) l[i].t)=true)∧Grow w2 wr) (fun t _=>l.length - (intOf t).toNat)
    case atStart=>exact ⟨0,rfl,Nat.zero_le _,fun i _ h=>by omega,Mv.refl _ _⟩
    obtain ⟨j,rfl,hj,hall,hgr⟩:=hrel;have bT:=ł hall;have bV:=ł hgr;have aQ:=ł (Mv.trans dK.out hgr (fun _ e=>e.elim));have bO:=ai gL.out hgr;obtain ⟨⟨u0,u1⟩,u2,u3⟩:=aF bO;have jg:=lt_of_block bO;clear hall hgr bO;by_cases hlt:j<l.length
    · obtain ⟨b,off,cap',e,_,hcc⟩:=(HX.out.row.2.2.2.1.later aQ.out).at hlt;simp only [Value.slice.injEq,true_and] at e;obtain ⟨rfl,rfl⟩:=e;have aX:=HX.out.row.2.2.2.2 l[j] (List.getElem_mem hlt);have HI:=ł (fun w' (h:Grow wr w')=>fG.out l[j] (List.getElem_mem hlt) w' (Mv.trans aQ.out h (fun _ e=>e.elim)));have HST:=ł (show ((l[j].t.kind == 57 || aO f (procs.map aj.d) l[j].t)=true→∀ i (h1:i<l.length),i<j+1→(l[i].t.kind == 57 || aO f (procs.map aj.d) l[i].t)=true) from fun h i h1 hij=>by
       rcases Nat.lt_or_ge i j with h3 | h3
       · exact bT.out i h1 h3
       · obtain rfl:i=j:=by omega
         exact h)
      have bF:=ł (show ((l[j].t.kind == 57 || aO f (procs.map aj.d) l[j].t)=false→fP f (procs.map aj.d) (ae.ts l)=false) from fun h=>by
       rw [kI];exact List.all_eq_false.2 ⟨l[j].t,by rw [ae.dP];exact List.mem_map.2 ⟨l[j],List.getElem_mem hlt,rfl⟩,by rw [h];simp⟩)
      generalize l[j]=y at HST bF HI aX hcc;obtain ⟨yk,yn,ys,jf,yl⟩:=y;obtain ⟨ya,yc,rfl,-,-⟩:=aX.form;simp only [ae.val] at HI;have c0:=hcc 0 _ rfl;have c1:=hcc 1 _ rfl;have c2:=hcc 2 _ rfl;have c3:=hcc 3 _ rfl;simp only [Nat.add_zero] at c0;have hbl:b<wr.heap.size:=World.block_lt_of_cell? wr _ c0;have aA:=ł (bV.out.alloc (.cells #[.int .u8 yk,.int .i64 yn,.string ys,.slice ya yl.length yc] 24));have dL:=ł (aQ.out.alloc (.cells #[.int .u8 yk,.int .i64 yn,.string ys,.slice ya yl.length yc] 24));have HK:=ł (show (ae.mk yk yn ys (.slice ya yl.length yc) yl).t.kind=yk from by simp [ae.t,Tree.kind]);rw [HK.out] at HST bF;by_cases fq:yk=57
      · subst fq;have aU:=ł (HST.out (by simp));clear hcc aX;go_wp2_with fail
        go_roundw
        case rel=>exact ⟨j+1,by go_num,by omega,aU.out,aA.out⟩
        case measure=>simp [intOf];omega
      · have hkn:(yk != 57)=true:=by simpa using fq
        have hkn2:(yk == 57)=false:=by simpa using fq
        have HC:=ł (HI.out (wr.alloc (.cells #[.int .u8 yk,.int .i64 yn,.string ys,.slice ya yl.length yc] 24)) ((Mv.refl _ _).alloc _));rw [hkn2,Bool.false_or] at HST bF;generalize aO f (procs.map aj.d) (ae.mk yk yn ys (.slice ya yl.length yc) yl).t=bv at *;clear hcc aX;go_wp2_with fail;refine HC.out.mono ?_;rintro e w5 ⟨rfl,hg5⟩;have aS:=ł (Mv.trans aA.out hg5 (fun _ e=>e.elim));have bP:=ł (Mv.trans dL.out hg5 (fun _ e=>e.elim));clear hg5;cases bv with
        | true =>
         have aU:=ł (HST.out rfl);go_wp2_with fail
         go_roundw
         case rel=>exact ⟨j+1,by go_num,by omega,aU.out,aS.out⟩
         case measure=>simp [intOf];omega
        | false =>
         have HR:=ł (show aO f (procs.map aj.d) (.mk 45 n s (ae.ts l))=false from by rw [bA.out,bF.out rfl]);go_wp2_with fail;go_ret;exact ⟨aD HR.out.symm,bP.out⟩
    obtain rfl:j=l.length:=by omega
    have HR:=ł (show aO f (procs.map aj.d) (.mk 45 n s (ae.ts l))=true from by
     rw [bA.out,kI];refine List.all_eq_true.2 fun t ht => ?_;rw [ae.dP] at ht;obtain ⟨x,hx,rfl⟩:=List.mem_map.1 ht;obtain ⟨i,hi,rfl⟩:=List.mem_iff_getElem.1 hx;exact bT.out i hi hi)
    go_wp2_with fail;go_ret;exact ⟨aD HR.out.symm,aQ.out⟩
  by_cases lu:k=55
  · subst lu;have hg1:Grow w ((w.alloc (.cells #[.slice fa f.slots.length fc,.int .i64 f.cells,.int .i64 f.stacks,.slice ga procs.length gc] 62)).alloc (.cells #[.int .u8 55,.int .i64 n,.string s,.slice a l.length cap] 24)):=((Mv.refl _ _).alloc _).alloc _;have hU:=aT (heap_alloc_new w (.cells #[.slice fa f.slots.length fc,.int .i64 f.cells,.int .i64 f.stacks,.slice ga procs.length gc] 62)) (.cells #[.int .u8 55,.int .i64 n,.string s,.slice a l.length cap] 24);have hN:=heap_alloc_new (w.alloc (.cells #[.slice fa f.slots.length fc,.int .i64 f.cells,.int .i64 f.stacks,.slice ga procs.length gc] 62)) (.cells #[.int .u8 55,.int .i64 n,.string s,.slice a l.length cap] 24);rw [World.size_alloc] at hN;have bJ:=ł hg1;have HU:=ł hU;have HN:=ł hN;clear hg1 hU hN;have dQ:=ł (uW (.slice fa f.slots.length fc) (.slice ga procs.length gc) f s 3 ((w.alloc (.cells #[.slice fa f.slots.length fc,.int .i64 f.cells,.int .i64 f.stacks,.slice ga procs.length gc] 62)).alloc (.cells #[.int .u8 55,.int .i64 n,.string s,.slice a l.length cap] 24)) (HF.out.later bJ.out) ga procs.length gc rfl);have bA:=ł (show (au f s 3).isSome=true→aO f (procs.map aj.d) (.mk 55 n s (ae.ts l))=fP f (procs.map aj.d) (ae.ts l) from fun h=>by simp [aO,h]);have jv:=ł (show (au f s 3).isSome=false→aO f (procs.map aj.d) (.mk 55 n s (ae.ts l))=false from fun h=>by simp [aO,h])
    go_enter Tryz.func76,Tryz.ntmps76
    go_wp2_with fail;generalize ((w.alloc (.cells #[.slice fa f.slots.length fc,.int .i64 f.cells,.int .i64 f.stacks,.slice ga procs.length gc] 62)).alloc (.cells #[.int .u8 55,.int .i64 n,.string s,.slice a l.length cap] 24))=w1 at *;refine dQ.out.mono ?_;rintro e w2 ⟨rfl,hg2⟩;have dK:=ł (Mv.trans bJ.out hg2 (fun _ e=>e.elim));have gL:=ł (ai HU.out hg2);have bX:=ai HN.out hg2;obtain ⟨⟨n0,n1⟩,n2,n3⟩:=aF bX;have hln:=lt_of_block bX;generalize (au f s 3).isSome=pb at *;clear hg2 bX dQ;cases pb with
    | false =>
     have HR:=ł (jv.out rfl);go_wp2_with fail;go_ret;exact ⟨aD HR.out.symm,dK.out⟩
    | true =>
    have fe:=ł (bA.out rfl);clear bA;have bA:=fe;clear fe;go_wp2_with fail;clear n0 n1 n2 n3 hln
    go_loopw [44] (fun t wr=>∃ j:Nat,t = .int .i64 j∧j≤l.length∧(∀ i (h1:i<l.length),i<j→(l[i].t.kind == 57 || aO f (procs.map aj.d) l[i].t)=true)∧Grow w2 wr) (fun t _=>l.length - (intOf t).toNat)
    case atStart=>exact ⟨0,rfl,Nat.zero_le _,fun i _ h=>by omega,Mv.refl _ _⟩
    obtain ⟨j,rfl,hj,hall,hgr⟩:=hrel;have bT:=ł hall;have bV:=ł hgr;have aQ:=ł (Mv.trans dK.out hgr (fun _ e=>e.elim));have bO:=ai gL.out hgr;obtain ⟨⟨u0,u1⟩,u2,u3⟩:=aF bO;have jg:=lt_of_block bO;clear hall hgr bO;by_cases hlt:j<l.length
    · obtain ⟨b,off,cap',e,_,hcc⟩:=(HX.out.row.2.2.2.1.later aQ.out).at hlt;simp only [Value.slice.injEq,true_and] at e;obtain ⟨rfl,rfl⟩:=e;have aX:=HX.out.row.2.2.2.2 l[j] (List.getElem_mem hlt);have HI:=ł (fun w' (h:Grow wr w')=>fG.out l[j] (List.getElem_mem hlt) w' (Mv.trans aQ.out h (fun _ e=>e.elim)));have HST:=ł (show ((l[j].t.kind == 57 || aO f (procs.map aj.d) l[j].t)=true→∀ i (h1:i<l.length),i<j+1→(l[i].t.kind == 57 || aO f (procs.map aj.d) l[i].t)=true) from fun h i h1 hij=>by
       rcases Nat.lt_or_ge i j with h3 | h3
       · exact bT.out i h1 h3
       · obtain rfl:i=j:=by omega
         exact h)
      have bF:=ł (show ((l[j].t.kind == 57 || aO f (procs.map aj.d) l[j].t)=false→fP f (procs.map aj.d) (ae.ts l)=false) from fun h=>by
       rw [kI];exact List.all_eq_false.2 ⟨l[j].t,by rw [ae.dP];exact List.mem_map.2 ⟨l[j],List.getElem_mem hlt,rfl⟩,by rw [h];simp⟩)
      generalize l[j]=y at HST bF HI aX hcc;obtain ⟨yk,yn,ys,jf,yl⟩:=y;obtain ⟨ya,yc,rfl,-,-⟩:=aX.form;simp only [ae.val] at HI;have c0:=hcc 0 _ rfl;have c1:=hcc 1 _ rfl;have c2:=hcc 2 _ rfl;have c3:=hcc 3 _ rfl;simp only [Nat.add_zero] at c0;have hbl:b<wr.heap.size:=World.block_lt_of_cell? wr _ c0;have aA:=ł (bV.out.alloc (.cells #[.int .u8 yk,.int .i64 yn,.string ys,.slice ya yl.length yc] 24));have dL:=ł (aQ.out.alloc (.cells #[.int .u8 yk,.int .i64 yn,.string ys,.slice ya yl.length yc] 24));have HK:=ł (show (ae.mk yk yn ys (.slice ya yl.length yc) yl).t.kind=yk from by simp [ae.t,Tree.kind]);rw [HK.out] at HST bF;by_cases fq:yk=57
      · subst fq;have aU:=ł (HST.out (by simp));clear hcc aX;go_wp2_with fail
        go_roundw
        case rel=>exact ⟨j+1,by go_num,by omega,aU.out,aA.out⟩
        case measure=>simp [intOf];omega
      · have hkn:(yk != 57)=true:=by simpa using fq
        have hkn2:(yk == 57)=false:=by simpa using fq
        have HC:=ł (HI.out (wr.alloc (.cells #[.int .u8 yk,.int .i64 yn,.string ys,.slice ya yl.length yc] 24)) ((Mv.refl _ _).alloc _));rw [hkn2,Bool.false_or] at HST bF;generalize aO f (procs.map aj.d) (ae.mk yk yn ys (.slice ya yl.length yc) yl).t=bv at *;clear hcc aX;go_wp2_with fail;refine HC.out.mono ?_;rintro e w5 ⟨rfl,hg5⟩;have aS:=ł (Mv.trans aA.out hg5 (fun _ e=>e.elim));have bP:=ł (Mv.trans dL.out hg5 (fun _ e=>e.elim));clear hg5;cases bv with
        | true =>
         have aU:=ł (HST.out rfl);go_wp2_with fail
         go_roundw
         case rel=>exact ⟨j+1,by go_num,by omega,aU.out,aS.out⟩
         case measure=>simp [intOf];omega
        | false =>
         have HR:=ł (show aO f (procs.map aj.d) (.mk 55 n s (ae.ts l))=false from by rw [bA.out,bF.out rfl]);go_wp2_with fail;go_ret;exact ⟨aD HR.out.symm,bP.out⟩
    obtain rfl:j=l.length:=by omega
    have HR:=ł (show aO f (procs.map aj.d) (.mk 55 n s (ae.ts l))=true from by
     rw [bA.out,kI];refine List.all_eq_true.2 fun t ht => ?_;rw [ae.dP] at ht;obtain ⟨x,hx,rfl⟩:=List.mem_map.1 ht;obtain ⟨i,hi,rfl⟩:=List.mem_iff_getElem.1 hx;exact bT.out i hi hi)
    go_wp2_with fail;go_ret;exact ⟨aD HR.out.symm,aQ.out⟩
  by_cases h50:k=50
  · subst h50;have hg1:Grow w ((w.alloc (.cells #[.slice fa f.slots.length fc,.int .i64 f.cells,.int .i64 f.stacks,.slice ga procs.length gc] 62)).alloc (.cells #[.int .u8 50,.int .i64 n,.string s,.slice a l.length cap] 24)):=((Mv.refl _ _).alloc _).alloc _;have hU:=aT (heap_alloc_new w (.cells #[.slice fa f.slots.length fc,.int .i64 f.cells,.int .i64 f.stacks,.slice ga procs.length gc] 62)) (.cells #[.int .u8 50,.int .i64 n,.string s,.slice a l.length cap] 24);have hN:=heap_alloc_new (w.alloc (.cells #[.slice fa f.slots.length fc,.int .i64 f.cells,.int .i64 f.stacks,.slice ga procs.length gc] 62)) (.cells #[.int .u8 50,.int .i64 n,.string s,.slice a l.length cap] 24);rw [World.size_alloc] at hN;have bJ:=ł hg1;have HU:=ł hU;have HN:=ł hN;clear hg1 hU hN;have dQ:=ł (Mc (.slice fa f.slots.length fc) (.slice ga procs.length gc) f procs 50 n s (.slice a l.length cap) l ((w.alloc (.cells #[.slice fa f.slots.length fc,.int .i64 f.cells,.int .i64 f.stacks,.slice ga procs.length gc] 62)).alloc (.cells #[.int .u8 50,.int .i64 n,.string s,.slice a l.length cap] 24)) (HF.out.later bJ.out) (HP.out.later bJ.out) (HX.out.later bJ.out));simp only [ae.val] at dQ;have HR:=ł (show aO f (procs.map aj.d) (.mk 50 n s (ae.ts l))=um f (procs.map aj.d) s (ae.ts l) from by simp [aO])
    go_enter Tryz.func76,Tryz.ntmps76
    go_wp2_with fail;generalize ((w.alloc (.cells #[.slice fa f.slots.length fc,.int .i64 f.cells,.int .i64 f.stacks,.slice ga procs.length gc] 62)).alloc (.cells #[.int .u8 50,.int .i64 n,.string s,.slice a l.length cap] 24))=w1 at *;refine dQ.out.mono ?_;rintro e w2 ⟨rfl,hg2⟩;have dK:=ł (Mv.trans bJ.out hg2 (fun _ e=>e.elim));clear hg2;go_wp2_with fail;go_ret;exact ⟨aD HR.out.symm,dK.out⟩
  by_cases kD:k=51
  · subst kD;have hg1:Grow w ((w.alloc (.cells #[.slice fa f.slots.length fc,.int .i64 f.cells,.int .i64 f.stacks,.slice ga procs.length gc] 62)).alloc (.cells #[.int .u8 51,.int .i64 n,.string s,.slice a l.length cap] 24)):=((Mv.refl _ _).alloc _).alloc _;have hU:=aT (heap_alloc_new w (.cells #[.slice fa f.slots.length fc,.int .i64 f.cells,.int .i64 f.stacks,.slice ga procs.length gc] 62)) (.cells #[.int .u8 51,.int .i64 n,.string s,.slice a l.length cap] 24);have hN:=heap_alloc_new (w.alloc (.cells #[.slice fa f.slots.length fc,.int .i64 f.cells,.int .i64 f.stacks,.slice ga procs.length gc] 62)) (.cells #[.int .u8 51,.int .i64 n,.string s,.slice a l.length cap] 24);rw [World.size_alloc] at hN;have bJ:=ł hg1;have HU:=ł hU;have HN:=ł hN;clear hg1 hU hN;have dQ:=ł (Mc (.slice fa f.slots.length fc) (.slice ga procs.length gc) f procs 51 n s (.slice a l.length cap) l ((w.alloc (.cells #[.slice fa f.slots.length fc,.int .i64 f.cells,.int .i64 f.stacks,.slice ga procs.length gc] 62)).alloc (.cells #[.int .u8 51,.int .i64 n,.string s,.slice a l.length cap] 24)) (HF.out.later bJ.out) (HP.out.later bJ.out) (HX.out.later bJ.out));simp only [ae.val] at dQ;have HR:=ł (show aO f (procs.map aj.d) (.mk 51 n s (ae.ts l))=um f (procs.map aj.d) s (ae.ts l) from by simp [aO])
    go_enter Tryz.func76,Tryz.ntmps76
    go_wp2_with fail;generalize ((w.alloc (.cells #[.slice fa f.slots.length fc,.int .i64 f.cells,.int .i64 f.stacks,.slice ga procs.length gc] 62)).alloc (.cells #[.int .u8 51,.int .i64 n,.string s,.slice a l.length cap] 24))=w1 at *;refine dQ.out.mono ?_;rintro e w2 ⟨rfl,hg2⟩;have dK:=ł (Mv.trans bJ.out hg2 (fun _ e=>e.elim));clear hg2;go_wp2_with fail;go_ret;exact ⟨aD HR.out.symm,dK.out⟩
  have hr2:(k == 2)=false:=by simpa using h2
  have Zo:(k == 54)=false:=by simpa using mK
  have hr3:(k == 3)=false:=by simpa using h3
  have hr4:(k == 4)=false:=by simpa using h4
  have yX:(k == 5)=false:=by simpa using h5
  have Zk:(k == 44)=false:=by simpa using lY
  have Zl:(k == 45)=false:=by simpa using h45
  have Zp:(k == 55)=false:=by simpa using lu
  have Zm:(k == 50)=false:=by simpa using h50
  have Zn:(k == 51)=false:=by simpa using kD
  have hg1:Grow w ((w.alloc (.cells #[.slice fa f.slots.length fc,.int .i64 f.cells,.int .i64 f.stacks,.slice ga procs.length gc] 62)).alloc (.cells #[.int .u8 k,.int .i64 n,.string s,.slice a l.length cap] 24)):=((Mv.refl _ _).alloc _).alloc _;have hU:=aT (heap_alloc_new w (.cells #[.slice fa f.slots.length fc,.int .i64 f.cells,.int .i64 f.stacks,.slice ga procs.length gc] 62)) (.cells #[.int .u8 k,.int .i64 n,.string s,.slice a l.length cap] 24);have hN:=heap_alloc_new (w.alloc (.cells #[.slice fa f.slots.length fc,.int .i64 f.cells,.int .i64 f.stacks,.slice ga procs.length gc] 62)) (.cells #[.int .u8 k,.int .i64 n,.string s,.slice a l.length cap] 24);rw [World.size_alloc] at hN;have bJ:=ł hg1;have HU:=ł hU;have HN:=ł hN;clear hg1 hU hN;have bA:=ł (show aO f (procs.map aj.d) (.mk k n s (ae.ts l))=fP f (procs.map aj.d) (ae.ts l) from by simp [aO,h2,mK,h3,h4,h5,lY,h45,lu,h50,kD]);have dK:=bJ;have gL:=HU;obtain ⟨⟨n0,n1⟩,n2,n3⟩:=aF HN.out;have hln:=lt_of_block HN.out;clear h2 mK h3 h4 h5 lY h45 lu h50 kD
  go_enter Tryz.func76,Tryz.ntmps76
  go_wp2_with fail;clear n0 n1 n2 n3 hln;generalize ((w.alloc (.cells #[.slice fa f.slots.length fc,.int .i64 f.cells,.int .i64 f.stacks,.slice ga procs.length gc] 62)).alloc (.cells #[.int .u8 k,.int .i64 n,.string s,.slice a l.length cap] 24))=w1 at *
  go_loopw [44] (fun t wr=>∃ j:Nat,t = .int .i64 j∧j≤l.length∧(∀ i (h1:i<l.length),i<j→(l[i].t.kind == 57 || aO f (procs.map aj.d) l[i].t)=true)∧Grow w1 wr) (fun t _=>l.length - (intOf t).toNat)
  case atStart=>exact ⟨0,rfl,Nat.zero_le _,fun i _ h=>by omega,Mv.refl _ _⟩
  obtain ⟨j,rfl,hj,hall,hgr⟩:=hrel;have bT:=ł hall;have bV:=ł hgr;have aQ:=ł (Mv.trans dK.out hgr (fun _ e=>e.elim));have bO:=ai gL.out hgr;obtain ⟨⟨u0,u1⟩,u2,u3⟩:=aF bO;have jg:=lt_of_block bO;clear hall hgr bO;by_cases hlt:j<l.length
  · obtain ⟨b,off,cap',e,_,hcc⟩:=(HX.out.row.2.2.2.1.later aQ.out).at hlt;simp only [Value.slice.injEq,true_and] at e;obtain ⟨rfl,rfl⟩:=e;have aX:=HX.out.row.2.2.2.2 l[j] (List.getElem_mem hlt);have HI:=ł (fun w' (h:Grow wr w')=>fG.out l[j] (List.getElem_mem hlt) w' (Mv.trans aQ.out h (fun _ e=>e.elim)));have HST:=ł (show ((l[j].t.kind == 57 || aO f (procs.map aj.d) l[j].t)=true→∀ i (h1:i<l.length),i<j+1→(l[i].t.kind == 57 || aO f (procs.map aj.d) l[i].t)=true) from fun h i h1 hij=>by
     rcases Nat.lt_or_ge i j with h3 | h3
     · exact bT.out i h1 h3
     · obtain rfl:i=j:=by omega
       exact h)
    have bF:=ł (show ((l[j].t.kind == 57 || aO f (procs.map aj.d) l[j].t)=false→fP f (procs.map aj.d) (ae.ts l)=false) from fun h=>by
     rw [kI];exact List.all_eq_false.2 ⟨l[j].t,by rw [ae.dP];exact List.mem_map.2 ⟨l[j],List.getElem_mem hlt,rfl⟩,by rw [h];simp⟩)
    generalize l[j]=y at HST bF HI aX hcc;obtain ⟨yk,yn,ys,jf,yl⟩:=y;obtain ⟨ya,yc,rfl,-,-⟩:=aX.form;simp only [ae.val] at HI;have c0:=hcc 0 _ rfl;have c1:=hcc 1 _ rfl;have c2:=hcc 2 _ rfl;have c3:=hcc 3 _ rfl;simp only [Nat.add_zero] at c0;have hbl:b<wr.heap.size:=World.block_lt_of_cell? wr _ c0;have aA:=ł (bV.out.alloc (.cells #[.int .u8 yk,.int .i64 yn,.string ys,.slice ya yl.length yc] 24));have dL:=ł (aQ.out.alloc (.cells #[.int .u8 yk,.int .i64 yn,.string ys,.slice ya yl.length yc] 24));have HK:=ł (show (ae.mk yk yn ys (.slice ya yl.length yc) yl).t.kind=yk from by simp [ae.t,Tree.kind]);rw [HK.out] at HST bF;by_cases fq:yk=57
    · subst fq;have aU:=ł (HST.out (by simp));clear hcc aX;go_wp2_with fail
      go_roundw
      case rel=>exact ⟨j+1,by go_num,by omega,aU.out,aA.out⟩
      case measure=>simp [intOf];omega
    · have hkn:(yk != 57)=true:=by simpa using fq
      have hkn2:(yk == 57)=false:=by simpa using fq
      have HC:=ł (HI.out (wr.alloc (.cells #[.int .u8 yk,.int .i64 yn,.string ys,.slice ya yl.length yc] 24)) ((Mv.refl _ _).alloc _));rw [hkn2,Bool.false_or] at HST bF;generalize aO f (procs.map aj.d) (ae.mk yk yn ys (.slice ya yl.length yc) yl).t=bv at *;clear hcc aX;go_wp2_with fail;refine HC.out.mono ?_;rintro e w5 ⟨rfl,hg5⟩;have aS:=ł (Mv.trans aA.out hg5 (fun _ e=>e.elim));have bP:=ł (Mv.trans dL.out hg5 (fun _ e=>e.elim));clear hg5;cases bv with
      | true =>
       have aU:=ł (HST.out rfl);go_wp2_with fail
       go_roundw
       case rel=>exact ⟨j+1,by go_num,by omega,aU.out,aS.out⟩
       case measure=>simp [intOf];omega
      | false =>
       have HR:=ł (show aO f (procs.map aj.d) (.mk k n s (ae.ts l))=false from by rw [bA.out,bF.out rfl]);go_wp2_with fail;go_ret;exact ⟨aD HR.out.symm,bP.out⟩
  obtain rfl:j=l.length:=by omega
  have HR:=ł (show aO f (procs.map aj.d) (.mk k n s (ae.ts l))=true from by
   rw [bA.out,kI];refine List.all_eq_true.2 fun t ht => ?_;rw [ae.dP] at ht;obtain ⟨x,hx,rfl⟩:=List.mem_map.1 ht;obtain ⟨i,hi,rfl⟩:=List.mem_iff_getElem.1 hx;exact bT.out i hi hi)
  go_wp2_with fail;go_ret;exact ⟨aD HR.out.symm,aQ.out⟩
theorem Wy (sv pv:Value) (f:az) (procs:List aj) (x:ae) (w:World) (hf:fF w sv f) (hp:lQ w pv procs) (hx:aV w x) :
 Calls Tryz.prog 76 #[.agg #[sv,.int .i64 f.cells,.int .i64 f.stacks,pv],x.val] w (jN w (aO f (procs.map aj.d) x.t)):=Wx sv pv f procs _ x (Nat.le_refl _) w hf hp hx
end Go.Proofs.YtnobahchcongnaaGreatDoor
