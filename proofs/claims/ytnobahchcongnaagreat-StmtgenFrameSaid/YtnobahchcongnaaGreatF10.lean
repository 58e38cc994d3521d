import Derived.Test.YtnobahchcongnaaGreatF09
set_option linter.unusedSimpArgs false
set_option linter.unusedVariables false
set_option maxRecDepth 100000
set_option maxHeartbeats 25600000
namespace Go.Proofs.YtnobahchcongnaaGreat
open Go.RowKit Go.Instr
theorem V4 (l:List Tree) (t:Tree):jR (l ++ [t])=max (jR l) (iJ t):=by
 induction l with
 |nil=>simp[jR]
 |cons x l ih=>simp only[List.cons_append,jR,ih];omega
theorem ND (l:List Tree) (j:Nat) (h:j<l.length):jR (l.take (j+1))=max (jR (l.take j)) (iJ l[j]):=by
 rw[List.take_succ_eq_append_getElem h,V4]
theorem Jp (l:List Tree) (j:Nat) (h:j<l.length):iJ l[j]<=jR l:=by
 induction l generalizing j with
 |nil=>simp at h
 |cons t l ih =>
  cases j with
  |zero=>simp only[List.getElem_cons_zero,jR];omega
  |succ j=>have:=ih j (by simpa using h);simp only[List.getElem_cons_succ,jR];omega
theorem VJ (l:List Tree) (j:Nat) (h:j<=l.length):jR (l.take j)<=jR l:=by
 induction j with
 |zero=>simp[jR]
 |succ j ih =>
  rw[ND l j (by omega)];have:=ih (by omega);have:=Jp l j (by omega);omega
theorem XW:∀ (m:Nat) (x:ae),SizeOf.sizeOf x<=m->iJ x.t<=1000000->∀ w:World,aS w x->Calls Tryz.prog 62 #[x.val] w λe w'=>e = .returned (.int .i64 (iJ x.t))/\Grow w w':=by
 intro m
 induction m with
 |zero=>intro x hm;cases x;simp at hm
 |succ m ih =>
  intro x hm hd w hx;obtain⟨k,n,s,kv,l⟩:=x;obtain⟨a,cap,rfl,hcap,hlen⟩:=hx.form;have zL:=ł (show iJ (ae.mk k n s (.slice a l.length cap) l).t=jR (ae.ts l)+1 from by simp only[ae.t,iJ]);rw[zL.out]at hd;have fT:=ł (λ(j:Nat) (hj:j<l.length) (w':World) (hg:Grow w w')=>ih l[j] (by have:=nA (k:=k) (n:=n) (s:=s) (kv := .slice a l.length cap) (List.getElem_mem hj);omega) (by
   have:=Jp (ae.ts l) j (by rw[ae.bT];exact hj);rw[ae.gm l j hj]at this
   omega) w' ((hx.row.2.2.2.2 l[j] (List.getElem_mem hj)).later hg))
  have HX:=ł hx;have HD:=ł hd;clear ih hm hx hd;simp only[ae.val];have HG:=ł (show Grow w (w.alloc (.cells #[.int .u8 k,.int .i64 n,.string s,.slice a l.length cap] 26))from(Mv.refl _ _).alloc _)
  go_enter Tryz.func62,Tryz.ntmps62
  go_wp2_with fail;generalize w.alloc (.cells #[.int .u8 k,.int .i64 n,.string s,.slice a l.length cap] 26)=w1 at *
  go_loopw [3,9] (λdv t wr=>∃ j:Nat,dv = .int .i64 (jR ((ae.ts l).take j))/\t = .int .i64 j/\j<=l.length/\Grow w1 wr) (λ_ t _=>l.length - (intOf t).toNat)
  case atStart=>exact⟨0,by simp[jR],rfl,Nat.zero_le _,Mv.refl _ _⟩
  obtain⟨j,rfl,rfl,hj,hgr⟩:=hrel;have dh:=ł hgr;have bE:=ł (Mv.trans HG.out hgr (λ_ e=>e.elim));clear hgr;have hdj:=VJ (ae.ts l) j (by rw[ae.bT];exact hj);have hd:=HD.out;by_cases hlt:j<l.length
  · obtain⟨b,off,cap',e,_,hcc⟩:=(HX.out.row.2.2.2.1.later bE.out).at hlt;simp only[Value.slice.injEq,true_and]at e;obtain⟨rfl,rfl⟩:=e;have bU:=HX.out.row.2.2.2.2 l[j] (List.getElem_mem hlt);have HI:=ł (λw' (h:Grow wr w')=>fT.out j hlt w' (Mv.trans bE.out h (λ_ e=>e.elim)));have DC:=ł (by have:=ND (ae.ts l) j (by rw[ae.bT];exact hlt);rw[ae.gm l j hlt]at this;exact this);generalize l[j]=y at HI DC bU hcc;obtain⟨yk,yn,ys,mY,yl⟩:=y;obtain⟨ya,yc,rfl,-,-⟩:=bU.form;simp only[ae.val]at HI;have c0:=hcc 0 _ rfl;have c1:=hcc 1 _ rfl;have c2:=hcc 2 _ rfl;have c3:=hcc 3 _ rfl;simp only[Nat.add_zero]at c0;have hbl:b<wr.heap.size:=World.block_lt_of_cell? wr _ c0
    have HC:=ł (HI.out (wr.alloc (.cells #[.int .u8 yk,.int .i64 yn,.string ys,.slice ya yl.length yc] 26)) ((Mv.refl _ _).alloc _));have aK:=ł (dh.out.alloc (.cells #[.int .u8 yk,.int .i64 yn,.string ys,.slice ya yl.length yc] 26));generalize iJ (ae.mk yk yn ys (.slice ya yl.length yc) yl).t=dy at *;generalize jR ((ae.ts l).take j)=dj at *;clear hcc bU;go_wp2_with fail;refine HC.out.mono ?_;rintro e w5 ⟨rfl,hg5⟩;have aT:=ł (Mv.trans aK.out hg5 (λ_ e=>e.elim));clear hg5;go_wp2_with fail
    go_roundw
    case rel=>exact⟨j+1,by rw[DC.out];congr 1;omega,by go_num,by omega,aT.out⟩
    case measure=>simp[intOf];omega
  obtain rfl:j=l.length:=by omega
  have iA:=ł (show(ae.ts l).take l.length=ae.ts l from List.take_of_length_le (by rw[ae.bT];exact Nat.le_refl _));rw[iA.out]at hdj ⊢;generalize jR (ae.ts l)=dd at *;go_wp2_with fail;go_ret;exact⟨cB (by rw[zL.out];omega),bE.out⟩
theorem XX (x:ae) (w:World) (h:aS w x) (hd:iJ x.t<=1000000):Calls Tryz.prog 62 #[x.val] w λe w'=>e = .returned (.int .i64 (iJ x.t))/\Grow w w':=XW _ x (Nat.le_refl _) hd w h
mutual
def bO (f:az):Tree->Bool
 |.mk k _ s l =>
  if k=2 then(au f s 1).isSome && jZ f l
  else if k=3 then(au f s 2).isSome && jZ f l
  else if k=4\/k=5 then(au f s 3).isSome && jZ f l
  else jZ f l
def jZ (f:az):List Tree->Bool
 | []=>true
 |t :: l=>bO f t && jZ f l
end
theorem um (f:az) (l:List Tree):jZ f l=l.all (bO f):=by
 induction l with
 |nil=>rw[jZ];rfl
 |cons t l ih=>rw[jZ,ih];rfl
theorem WT (sv:Value) (f:az):∀ (m:Nat) (x:ae),SizeOf.sizeOf x<=m->∀ w:World,fV w sv f->aS w x ->
 Calls Tryz.prog 61 #[x.val,.agg #[sv,.int .i64 f.cells,.int .i64 f.stacks]] w (iK w (bO f x.t)):=by
 intro m
 induction m with
 |zero=>intro x hm;cases x;simp at hm
 |succ m ih =>
  intro x hm w hf hx;obtain⟨k,n,s,kv,l⟩:=x;obtain⟨a,cap,rfl,hcap,hlen⟩:=hx.form;obtain⟨fa,fc,rfl,hfc,hfl⟩:=hf.row.form;have fT:=ł (λ(y:ae) (hy:y∈l) (w':World) (hg:Grow w w')=>ih y (by have:=nA (k:=k) (n:=n) (s:=s) (kv := .slice a l.length cap) hy;omega) w' (hf.later hg) ((hx.row.2.2.2.2 y hy).later hg));have HF:=ł hf;have HX:=ł hx;clear ih hm hf hx;simp only[ae.val,ae.t];by_cases h2:k=2
  · subst h2;have hg1:Grow w ((w.alloc (.cells #[.int .u8 2,.int .i64 n,.string s,.slice a l.length cap] 26)).alloc (.cells #[.slice fa f.slots.length fc,.int .i64 f.cells,.int .i64 f.stacks] 38)):=((Mv.refl _ _).alloc _).alloc _;have hN:=aO (heap_alloc_new w (.cells #[.int .u8 2,.int .i64 n,.string s,.slice a l.length cap] 26)) (.cells #[.slice fa f.slots.length fc,.int .i64 f.cells,.int .i64 f.stacks] 38);have hU:=heap_alloc_new (w.alloc (.cells #[.int .u8 2,.int .i64 n,.string s,.slice a l.length cap] 26)) (.cells #[.slice fa f.slots.length fc,.int .i64 f.cells,.int .i64 f.stacks] 38);rw[World.size_alloc]at hU;have bg:=ł hg1;have HU:=ł hU;have HN:=ł hN;clear hg1 hU hN;have kG:=ł (oV (.slice fa f.slots.length fc) f s 1 ((w.alloc (.cells #[.int .u8 2,.int .i64 n,.string s,.slice a l.length cap] 26)).alloc (.cells #[.slice fa f.slots.length fc,.int .i64 f.cells,.int .i64 f.stacks] 38)) (HF.out.later bg.out));have dQ:=ł (show(au f s 1).isSome=true->bO f (.mk 2 n s (ae.ts l))=jZ f (ae.ts l)from λh=>by simp[bO,h]);have wT:=ł (show(au f s 1).isSome=false->bO f (.mk 2 n s (ae.ts l))=false from λh=>by simp[bO,h])
    go_enter Tryz.func61,Tryz.ntmps61
    go_wp2_with fail;generalize ((w.alloc (.cells #[.int .u8 2,.int .i64 n,.string s,.slice a l.length cap] 26)).alloc (.cells #[.slice fa f.slots.length fc,.int .i64 f.cells,.int .i64 f.stacks] 38))=w1 at *;refine kG.out.mono ?_;rintro e w2 ⟨rfl,hg2⟩;have jV:=ł (Mv.trans bg.out hg2 (λ_ e=>e.elim));have qR:=ł (ai HU.out hg2);have fB:=ai HN.out hg2;obtain⟨⟨n0,n1⟩,n2,n3⟩:=aF fB;have hln:=lt_of_block fB;generalize (au f s 1).isSome=pb at *;generalize (au f s 1).getD noSlot=sl at *;clear hg2 fB kG;cases pb with
    |false =>
     have HR:=ł (wT.out rfl);go_wp2_with fail;go_ret;exact⟨aL HR.out.symm,jV.out⟩
    |true =>
    have pz:=ł (dQ.out rfl);clear dQ;have dQ:=pz;clear pz;go_wp2_with fail;clear n0 n1 n2 n3 hln
    go_loopw [43] (λt wr=>∃ j:Nat,t = .int .i64 j/\j<=l.length/\(∀ i (h1:i<l.length),i<j->bO f l[i].t=true)/\Grow w2 wr) (λt _=>l.length - (intOf t).toNat)
    case atStart=>exact⟨0,rfl,Nat.zero_le _,λi _ h=>by omega,Mv.refl _ _⟩
    obtain⟨j,rfl,hj,hall,hgr⟩:=hrel;have dP:=ł hall;have dh:=ł hgr;have bE:=ł (Mv.trans jV.out hgr (λ_ e=>e.elim));have eu:=ai qR.out hgr;have u0:wr.cell? ⟨w.heap.size+1,0,none⟩=some (.slice fa f.slots.length fc):=by simp[World.cell?,eu]
    have u1:wr.cell? ⟨w.heap.size+1,1,none⟩=some (.int .i64 f.cells):=by simp[World.cell?,eu]
    have u2:wr.cell? ⟨w.heap.size+1,2,none⟩=some (.int .i64 f.stacks):=by simp[World.cell?,eu]
    have mZ:=lt_of_block eu;clear hall hgr eu;by_cases hlt:j<l.length
    · obtain⟨b,off,cap',e,_,hcc⟩:=(HX.out.row.2.2.2.1.later bE.out).at hlt;simp only[Value.slice.injEq,true_and]at e;obtain⟨rfl,rfl⟩:=e;have bU:=HX.out.row.2.2.2.2 l[j] (List.getElem_mem hlt);have HI:=ł (λw' (h:Grow wr w')=>fT.out l[j] (List.getElem_mem hlt) w' (Mv.trans bE.out h (λ_ e=>e.elim)));have HST:=ł (show(bO f l[j].t=true->∀ i (h1:i<l.length),i<j+1->bO f l[i].t=true)from λh i h1 hij=>by
       rcases Nat.lt_or_ge i j with h3|h3
       · exact dP.out i h1 h3
       · obtain rfl:i=j:=by omega
         exact h)
      have dS:=ł (show(bO f l[j].t=false->jZ f (ae.ts l)=false)from λh=>by
       rw[um];exact List.all_eq_false.2 ⟨l[j].t,by rw[ae.ku];exact List.mem_map.2 ⟨l[j],List.getElem_mem hlt,rfl⟩,by rw[h];simp⟩)
      generalize l[j]=y at HST dS HI bU hcc;obtain⟨yk,yn,ys,mY,yl⟩:=y;obtain⟨ya,yc,rfl,-,-⟩:=bU.form;simp only[ae.val]at HI;have c0:=hcc 0 _ rfl;have c1:=hcc 1 _ rfl;have c2:=hcc 2 _ rfl;have c3:=hcc 3 _ rfl;simp only[Nat.add_zero]at c0;have hbl:b<wr.heap.size:=World.block_lt_of_cell? wr _ c0
      have aK:=ł (dh.out.alloc (.cells #[.int .u8 yk,.int .i64 yn,.string ys,.slice ya yl.length yc] 26));have eB:=ł (bE.out.alloc (.cells #[.int .u8 yk,.int .i64 yn,.string ys,.slice ya yl.length yc] 26));have HC:=ł (HI.out (wr.alloc (.cells #[.int .u8 yk,.int .i64 yn,.string ys,.slice ya yl.length yc] 26)) ((Mv.refl _ _).alloc _));generalize bO f (ae.mk yk yn ys (.slice ya yl.length yc) yl).t=bv at *;clear hcc bU;go_wp2_with fail;refine HC.out.mono ?_;rintro e w5 ⟨rfl,hg5⟩;have aT:=ł (Mv.trans aK.out hg5 (λ_ e=>e.elim));have dw:=ł (Mv.trans eB.out hg5 (λ_ e=>e.elim));clear hg5;cases bv with
      |true =>
       have aY:=ł (HST.out rfl);go_wp2_with fail
       go_roundw
       case rel=>exact⟨j+1,by go_num,by omega,aY.out,aT.out⟩
       case measure=>simp[intOf];omega
      |false =>
       have HR:=ł (show bO f (.mk 2 n s (ae.ts l))=false from by rw[dQ.out,dS.out rfl]);go_wp2_with fail;go_ret;exact⟨aL HR.out.symm,dw.out⟩
    obtain rfl:j=l.length:=by omega
    have HR:=ł (show bO f (.mk 2 n s (ae.ts l))=true from by
     rw[dQ.out,um];refine List.all_eq_true.2 λt ht => ?_;rw[ae.ku]at ht;obtain⟨x,hx,rfl⟩:=List.mem_map.1 ht;obtain⟨i,hi,rfl⟩:=List.mem_iff_getElem.1 hx;exact dP.out i hi hi)
    go_wp2_with fail;go_ret;exact⟨aL HR.out.symm,bE.out⟩
  by_cases h3:k=3
  · subst h3;have hg1:Grow w ((w.alloc (.cells #[.int .u8 3,.int .i64 n,.string s,.slice a l.length cap] 26)).alloc (.cells #[.slice fa f.slots.length fc,.int .i64 f.cells,.int .i64 f.stacks] 38)):=((Mv.refl _ _).alloc _).alloc _;have hN:=aO (heap_alloc_new w (.cells #[.int .u8 3,.int .i64 n,.string s,.slice a l.length cap] 26)) (.cells #[.slice fa f.slots.length fc,.int .i64 f.cells,.int .i64 f.stacks] 38);have hU:=heap_alloc_new (w.alloc (.cells #[.int .u8 3,.int .i64 n,.string s,.slice a l.length cap] 26)) (.cells #[.slice fa f.slots.length fc,.int .i64 f.cells,.int .i64 f.stacks] 38);rw[World.size_alloc]at hU;have bg:=ł hg1;have HU:=ł hU;have HN:=ł hN;clear hg1 hU hN;have kG:=ł (oV (.slice fa f.slots.length fc) f s 2 ((w.alloc (.cells #[.int .u8 3,.int .i64 n,.string s,.slice a l.length cap] 26)).alloc (.cells #[.slice fa f.slots.length fc,.int .i64 f.cells,.int .i64 f.stacks] 38)) (HF.out.later bg.out));have dQ:=ł (show(au f s 2).isSome=true->bO f (.mk 3 n s (ae.ts l))=jZ f (ae.ts l)from λh=>by simp[bO,h]);have wT:=ł (show(au f s 2).isSome=false->bO f (.mk 3 n s (ae.ts l))=false from λh=>by simp[bO,h])
    go_enter Tryz.func61,Tryz.ntmps61
    go_wp2_with fail;generalize ((w.alloc (.cells #[.int .u8 3,.int .i64 n,.string s,.slice a l.length cap] 26)).alloc (.cells #[.slice fa f.slots.length fc,.int .i64 f.cells,.int .i64 f.stacks] 38))=w1 at *;refine kG.out.mono ?_;rintro e w2 ⟨rfl,hg2⟩;have jV:=ł (Mv.trans bg.out hg2 (λ_ e=>e.elim));have qR:=ł (ai HU.out hg2);have fB:=ai HN.out hg2;obtain⟨⟨n0,n1⟩,n2,n3⟩:=aF fB;have hln:=lt_of_block fB;generalize (au f s 2).isSome=pb at *;generalize (au f s 2).getD noSlot=sl at *;clear hg2 fB kG;cases pb with
    |false =>
     have HR:=ł (wT.out rfl);go_wp2_with fail;go_ret;exact⟨aL HR.out.symm,jV.out⟩
    |true =>
    have pz:=ł (dQ.out rfl);clear dQ;have dQ:=pz;clear pz;go_wp2_with fail;clear n0 n1 n2 n3 hln
    go_loopw [43] (λt wr=>∃ j:Nat,t = .int .i64 j/\j<=l.length/\(∀ i (h1:i<l.length),i<j->bO f l[i].t=true)/\Grow w2 wr) (λt _=>l.length - (intOf t).toNat)
    case atStart=>exact⟨0,rfl,Nat.zero_le _,λi _ h=>by omega,Mv.refl _ _⟩
    obtain⟨j,rfl,hj,hall,hgr⟩:=hrel;have dP:=ł hall;have dh:=ł hgr;have bE:=ł (Mv.trans jV.out hgr (λ_ e=>e.elim));have eu:=ai qR.out hgr;have u0:wr.cell? ⟨w.heap.size+1,0,none⟩=some (.slice fa f.slots.length fc):=by simp[World.cell?,eu]
    have u1:wr.cell? ⟨w.heap.size+1,1,none⟩=some (.int .i64 f.cells):=by simp[World.cell?,eu]
    have u2:wr.cell? ⟨w.heap.size+1,2,none⟩=some (.int .i64 f.stacks):=by simp[World.cell?,eu]
    have mZ:=lt_of_block eu;clear hall hgr eu;by_cases hlt:j<l.length
    · obtain⟨b,off,cap',e,_,hcc⟩:=(HX.out.row.2.2.2.1.later bE.out).at hlt;simp only[Value.slice.injEq,true_and]at e;obtain⟨rfl,rfl⟩:=e;have bU:=HX.out.row.2.2.2.2 l[j] (List.getElem_mem hlt);have HI:=ł (λw' (h:Grow wr w')=>fT.out l[j] (List.getElem_mem hlt) w' (Mv.trans bE.out h (λ_ e=>e.elim)));have HST:=ł (show(bO f l[j].t=true->∀ i (h1:i<l.length),i<j+1->bO f l[i].t=true)from λh i h1 hij=>by
       rcases Nat.lt_or_ge i j with h3|h3
       · exact dP.out i h1 h3
       · obtain rfl:i=j:=by omega
         exact h)
      have dS:=ł (show(bO f l[j].t=false->jZ f (ae.ts l)=false)from λh=>by
       rw[um];exact List.all_eq_false.2 ⟨l[j].t,by rw[ae.ku];exact List.mem_map.2 ⟨l[j],List.getElem_mem hlt,rfl⟩,by rw[h];simp⟩)
      generalize l[j]=y at HST dS HI bU hcc;obtain⟨yk,yn,ys,mY,yl⟩:=y;obtain⟨ya,yc,rfl,-,-⟩:=bU.form;simp only[ae.val]at HI;have c0:=hcc 0 _ rfl;have c1:=hcc 1 _ rfl;have c2:=hcc 2 _ rfl;have c3:=hcc 3 _ rfl;simp only[Nat.add_zero]at c0;have hbl:b<wr.heap.size:=World.block_lt_of_cell? wr _ c0
      have aK:=ł (dh.out.alloc (.cells #[.int .u8 yk,.int .i64 yn,.string ys,.slice ya yl.length yc] 26));have eB:=ł (bE.out.alloc (.cells #[.int .u8 yk,.int .i64 yn,.string ys,.slice ya yl.length yc] 26));have HC:=ł (HI.out (wr.alloc (.cells #[.int .u8 yk,.int .i64 yn,.string ys,.slice ya yl.length yc] 26)) ((Mv.refl _ _).alloc _));generalize bO f (ae.mk yk yn ys (.slice ya yl.length yc) yl).t=bv at *;clear hcc bU;go_wp2_with fail;refine HC.out.mono ?_;rintro e w5 ⟨rfl,hg5⟩;have aT:=ł (Mv.trans aK.out hg5 (λ_ e=>e.elim));have dw:=ł (Mv.trans eB.out hg5 (λ_ e=>e.elim));clear hg5;cases bv with
      |true =>
       have aY:=ł (HST.out rfl);go_wp2_with fail
       go_roundw
       case rel=>exact⟨j+1,by go_num,by omega,aY.out,aT.out⟩
       case measure=>simp[intOf];omega
      |false =>
       have HR:=ł (show bO f (.mk 3 n s (ae.ts l))=false from by rw[dQ.out,dS.out rfl]);go_wp2_with fail;go_ret;exact⟨aL HR.out.symm,dw.out⟩
    obtain rfl:j=l.length:=by omega
    have HR:=ł (show bO f (.mk 3 n s (ae.ts l))=true from by
     rw[dQ.out,um];refine List.all_eq_true.2 λt ht => ?_;rw[ae.ku]at ht;obtain⟨x,hx,rfl⟩:=List.mem_map.1 ht;obtain⟨i,hi,rfl⟩:=List.mem_iff_getElem.1 hx;exact dP.out i hi hi)
    go_wp2_with fail;go_ret;exact⟨aL HR.out.symm,bE.out⟩
  by_cases h4:k=4
  · subst h4;have hg1:Grow w ((w.alloc (.cells #[.int .u8 4,.int .i64 n,.string s,.slice a l.length cap] 26)).alloc (.cells #[.slice fa f.slots.length fc,.int .i64 f.cells,.int .i64 f.stacks] 38)):=((Mv.refl _ _).alloc _).alloc _;have hN:=aO (heap_alloc_new w (.cells #[.int .u8 4,.int .i64 n,.string s,.slice a l.length cap] 26)) (.cells #[.slice fa f.slots.length fc,.int .i64 f.cells,.int .i64 f.stacks] 38);have hU:=heap_alloc_new (w.alloc (.cells #[.int .u8 4,.int .i64 n,.string s,.slice a l.length cap] 26)) (.cells #[.slice fa f.slots.length fc,.int .i64 f.cells,.int .i64 f.stacks] 38);rw[World.size_alloc]at hU;have bg:=ł hg1;have HU:=ł hU;have HN:=ł hN;clear hg1 hU hN;have kG:=ł (oV (.slice fa f.slots.length fc) f s 3 ((w.alloc (.cells #[.int .u8 4,.int .i64 n,.string s,.slice a l.length cap] 26)).alloc (.cells #[.slice fa f.slots.length fc,.int .i64 f.cells,.int .i64 f.stacks] 38)) (HF.out.later bg.out));have dQ:=ł (show(au f s 3).isSome=true->bO f (.mk 4 n s (ae.ts l))=jZ f (ae.ts l)from λh=>by simp[bO,h]);have wT:=ł (show(au f s 3).isSome=false->bO f (.mk 4 n s (ae.ts l))=false from λh=>by simp[bO,h])
    go_enter Tryz.func61,Tryz.ntmps61
    go_wp2_with fail;generalize ((w.alloc (.cells #[.int .u8 4,.int .i64 n,.string s,.slice a l.length cap] 26)).alloc (.cells #[.slice fa f.slots.length fc,.int .i64 f.cells,.int .i64 f.stacks] 38))=w1 at *;refine kG.out.mono ?_;rintro e w2 ⟨rfl,hg2⟩;have jV:=ł (Mv.trans bg.out hg2 (λ_ e=>e.elim));have qR:=ł (ai HU.out hg2);have fB:=ai HN.out hg2;obtain⟨⟨n0,n1⟩,n2,n3⟩:=aF fB;have hln:=lt_of_block fB;generalize (au f s 3).isSome=pb at *;generalize (au f s 3).getD noSlot=sl at *;clear hg2 fB kG;cases pb with
    |false =>
     have HR:=ł (wT.out rfl);go_wp2_with fail;go_ret;exact⟨aL HR.out.symm,jV.out⟩
    |true =>
    have pz:=ł (dQ.out rfl);clear dQ;have dQ:=pz;clear pz;go_wp2_with fail;clear n0 n1 n2 n3 hln
    go_loopw [43] (λt wr=>∃ j:Nat,t = .int .i64 j/\j<=l.length/\(∀ i (h1:i<l.length),i<j->bO f l[i].t=true)/\Grow w2 wr) (λt _=>l.length - (intOf t).toNat)
    case atStart=>exact⟨0,rfl,Nat.zero_le _,λi _ h=>by omega,Mv.refl _ _⟩
    obtain⟨j,rfl,hj,hall,hgr⟩:=hrel;have dP:=ł hall;have dh:=ł hgr;have bE:=ł (Mv.trans jV.out hgr (λ_ e=>e.elim));have eu:=ai qR.out hgr;have u0:wr.cell? ⟨w.heap.size+1,0,none⟩=some (.slice fa f.slots.length fc):=by simp[World.cell?,eu]
    have u1:wr.cell? ⟨w.heap.size+1,1,none⟩=some (.int .i64 f.cells):=by simp[World.cell?,eu]
    have u2:wr.cell? ⟨w.heap.size+1,2,none⟩=some (.int .i64 f.stacks):=by simp[World.cell?,eu]
    have mZ:=lt_of_block eu;clear hall hgr eu;by_cases hlt:j<l.length
    · obtain⟨b,off,cap',e,_,hcc⟩:=(HX.out.row.2.2.2.1.later bE.out).at hlt;simp only[Value.slice.injEq,true_and]at e;obtain⟨rfl,rfl⟩:=e;have bU:=HX.out.row.2.2.2.2 l[j] (List.getElem_mem hlt);have HI:=ł (λw' (h:Grow wr w')=>fT.out l[j] (List.getElem_mem hlt) w' (Mv.trans bE.out h (λ_ e=>e.elim)));have HST:=ł (show(bO f l[j].t=true->∀ i (h1:i<l.length),i<j+1->bO f l[i].t=true)from λh i h1 hij=>by
       rcases Nat.lt_or_ge i j with h3|h3
       · exact dP.out i h1 h3
       · obtain rfl:i=j:=by omega
         exact h)
      have dS:=ł (show(bO f l[j].t=false->jZ f (ae.ts l)=false)from λh=>by
       rw[um];exact List.all_eq_false.2 ⟨l[j].t,by rw[ae.ku];exact List.mem_map.2 ⟨l[j],List.getElem_mem hlt,rfl⟩,by rw[h];simp⟩)
      generalize l[j]=y at HST dS HI bU hcc;obtain⟨yk,yn,ys,mY,yl⟩:=y;obtain⟨ya,yc,rfl,-,-⟩:=bU.form;simp only[ae.val]at HI;have c0:=hcc 0 _ rfl;have c1:=hcc 1 _ rfl;have c2:=hcc 2 _ rfl;have c3:=hcc 3 _ rfl;simp only[Nat.add_zero]at c0;have hbl:b<wr.heap.size:=World.block_lt_of_cell? wr _ c0
      have aK:=ł (dh.out.alloc (.cells #[.int .u8 yk,.int .i64 yn,.string ys,.slice ya yl.length yc] 26));have eB:=ł (bE.out.alloc (.cells #[.int .u8 yk,.int .i64 yn,.string ys,.slice ya yl.length yc] 26));have HC:=ł (HI.out (wr.alloc (.cells #[.int .u8 yk,.int .i64 yn,.string ys,.slice ya yl.length yc] 26)) ((Mv.refl _ _).alloc _));generalize bO f (ae.mk yk yn ys (.slice ya yl.length yc) yl).t=bv at *;clear hcc bU;go_wp2_with fail;refine HC.out.mono ?_;rintro e w5 ⟨rfl,hg5⟩;have aT:=ł (Mv.trans aK.out hg5 (λ_ e=>e.elim));have dw:=ł (Mv.trans eB.out hg5 (λ_ e=>e.elim));clear hg5;cases bv with
      |true =>
       have aY:=ł (HST.out rfl);go_wp2_with fail
       go_roundw
       case rel=>exact⟨j+1,by go_num,by omega,aY.out,aT.out⟩
       case measure=>simp[intOf];omega
      |false =>
       have HR:=ł (show bO f (.mk 4 n s (ae.ts l))=false from by rw[dQ.out,dS.out rfl]);go_wp2_with fail;go_ret;exact⟨aL HR.out.symm,dw.out⟩
    obtain rfl:j=l.length:=by omega
    have HR:=ł (show bO f (.mk 4 n s (ae.ts l))=true from by
     rw[dQ.out,um];refine List.all_eq_true.2 λt ht => ?_;rw[ae.ku]at ht;obtain⟨x,hx,rfl⟩:=List.mem_map.1 ht;obtain⟨i,hi,rfl⟩:=List.mem_iff_getElem.1 hx;exact dP.out i hi hi)
    go_wp2_with fail;go_ret;exact⟨aL HR.out.symm,bE.out⟩
  by_cases h5:k=5
  · subst h5;have hg1:Grow w ((w.alloc (.cells #[.int .u8 5,.int .i64 n,.string s,.slice a l.length cap] 26)).alloc (.cells #[.slice fa f.slots.length fc,.int .i64 f.cells,.int .i64 f.stacks] 38)):=((Mv.refl _ _).alloc _).alloc _;have hN:=aO (heap_alloc_new w (.cells #[.int .u8 5,.int .i64 n,.string s,.slice a l.length cap] 26)) (.cells #[.slice fa f.slots.length fc,.int .i64 f.cells,.int .i64 f.stacks] 38);have hU:=heap_alloc_new (w.alloc (.cells #[.int .u8 5,.int .i64 n,.string s,.slice a l.length cap] 26)) (.cells #[.slice fa f.slots.length fc,.int .i64 f.cells,.int .i64 f.stacks] 38);rw[World.size_alloc]at hU;have bg:=ł hg1;have HU:=ł hU;have HN:=ł hN;clear hg1 hU hN;have kG:=ł (oV (.slice fa f.slots.length fc) f s 3 ((w.alloc (.cells #[.int .u8 5,.int .i64 n,.string s,.slice a l.length cap] 26)).alloc (.cells #[.slice fa f.slots.length fc,.int .i64 f.cells,.int .i64 f.stacks] 38)) (HF.out.later bg.out));have dQ:=ł (show(au f s 3).isSome=true->bO f (.mk 5 n s (ae.ts l))=jZ f (ae.ts l)from λh=>by simp[bO,h]);have wT:=ł (show(au f s 3).isSome=false->bO f (.mk 5 n s (ae.ts l))=false from λh=>by simp[bO,h])
    go_enter Tryz.func61,Tryz.ntmps61
    go_wp2_with fail;generalize ((w.alloc (.cells #[.int .u8 5,.int .i64 n,.string s,.slice a l.length cap] 26)).alloc (.cells #[.slice fa f.slots.length fc,.int .i64 f.cells,.int .i64 f.stacks] 38))=w1 at *;refine kG.out.mono ?_;rintro e w2 ⟨rfl,hg2⟩;have jV:=ł (Mv.trans bg.out hg2 (λ_ e=>e.elim));have qR:=ł (ai HU.out hg2);have fB:=ai HN.out hg2;obtain⟨⟨n0,n1⟩,n2,n3⟩:=aF fB;have hln:=lt_of_block fB;generalize (au f s 3).isSome=pb at *;generalize (au f s 3).getD noSlot=sl at *;clear hg2 fB kG;cases pb with
    |false =>
     have HR:=ł (wT.out rfl);go_wp2_with fail;go_ret;exact⟨aL HR.out.symm,jV.out⟩
    |true =>
    have pz:=ł (dQ.out rfl);clear dQ;have dQ:=pz;clear pz;go_wp2_with fail;clear n0 n1 n2 n3 hln
    go_loopw [43] (λt wr=>∃ j:Nat,t = .int .i64 j/\j<=l.length/\(∀ i (h1:i<l.length),i<j->bO f l[i].t=true)/\Grow w2 wr) (λt _=>l.length - (intOf t).toNat)
    case atStart=>exact⟨0,rfl,Nat.zero_le _,λi _ h=>by omega,Mv.refl _ _⟩
    obtain⟨j,rfl,hj,hall,hgr⟩:=hrel;have dP:=ł hall;have dh:=ł hgr;have bE:=ł (Mv.trans jV.out hgr (λ_ e=>e.elim));have eu:=ai qR.out hgr;have u0:wr.cell? ⟨w.heap.size+1,0,none⟩=some (.slice fa f.slots.length fc):=by simp[World.cell?,eu]
    have u1:wr.cell? ⟨w.heap.size+1,1,none⟩=some (.int .i64 f.cells):=by simp[World.cell?,eu]
    have u2:wr.cell? ⟨w.heap.size+1,2,none⟩=some (.int .i64 f.stacks):=by simp[World.cell?,eu]
    have mZ:=lt_of_block eu;clear hall hgr eu;by_cases hlt:j<l.length
    · obtain⟨b,off,cap',e,_,hcc⟩:=(HX.out.row.2.2.2.1.later bE.out).at hlt;simp only[Value.slice.injEq,true_and]at e;obtain⟨rfl,rfl⟩:=e;have bU:=HX.out.row.2.2.2.2 l[j] (List.getElem_mem hlt);have HI:=ł (λw' (h:Grow wr w')=>fT.out l[j] (List.getElem_mem hlt) w' (Mv.trans bE.out h (λ_ e=>e.elim)));have HST:=ł (show(bO f l[j].t=true->∀ i (h1:i<l.length),i<j+1->bO f l[i].t=true)from λh i h1 hij=>by
       rcases Nat.lt_or_ge i j with h3|h3
       · exact dP.out i h1 h3
       · obtain rfl:i=j:=by omega
         exact h)
      have dS:=ł (show(bO f l[j].t=false->jZ f (ae.ts l)=false)from λh=>by
       rw[um];exact List.all_eq_false.2 ⟨l[j].t,by rw[ae.ku];exact List.mem_map.2 ⟨l[j],List.getElem_mem hlt,rfl⟩,by rw[h];simp⟩)
      generalize l[j]=y at HST dS HI bU hcc;obtain⟨yk,yn,ys,mY,yl⟩:=y;obtain⟨ya,yc,rfl,-,-⟩:=bU.form;simp only[ae.val]at HI;have c0:=hcc 0 _ rfl;have c1:=hcc 1 _ rfl;have c2:=hcc 2 _ rfl;have c3:=hcc 3 _ rfl;simp only[Nat.add_zero]at c0;have hbl:b<wr.heap.size:=World.block_lt_of_cell? wr _ c0
      have aK:=ł (dh.out.alloc (.cells #[.int .u8 yk,.int .i64 yn,.string ys,.slice ya yl.length yc] 26));have eB:=ł (bE.out.alloc (.cells #[.int .u8 yk,.int .i64 yn,.string ys,.slice ya yl.length yc] 26));have HC:=ł (HI.out (wr.alloc (.cells #[.int .u8 yk,.int .i64 yn,.string ys,.slice ya yl.length yc] 26)) ((Mv.refl _ _).alloc _));generalize bO f (ae.mk yk yn ys (.slice ya yl.length yc) yl).t=bv at *;clear hcc bU;go_wp2_with fail;refine HC.out.mono ?_;rintro e w5 ⟨rfl,hg5⟩;have aT:=ł (Mv.trans aK.out hg5 (λ_ e=>e.elim));have dw:=ł (Mv.trans eB.out hg5 (λ_ e=>e.elim));clear hg5;cases bv with
      |true =>
       have aY:=ł (HST.out rfl);go_wp2_with fail
       go_roundw
       case rel=>exact⟨j+1,by go_num,by omega,aY.out,aT.out⟩
       case measure=>simp[intOf];omega
      |false =>
       have HR:=ł (show bO f (.mk 5 n s (ae.ts l))=false from by rw[dQ.out,dS.out rfl]);go_wp2_with fail;go_ret;exact⟨aL HR.out.symm,dw.out⟩
    obtain rfl:j=l.length:=by omega
    have HR:=ł (show bO f (.mk 5 n s (ae.ts l))=true from by
     rw[dQ.out,um];refine List.all_eq_true.2 λt ht => ?_;rw[ae.ku]at ht;obtain⟨x,hx,rfl⟩:=List.mem_map.1 ht;obtain⟨i,hi,rfl⟩:=List.mem_iff_getElem.1 hx;exact dP.out i hi hi)
    go_wp2_with fail;go_ret;exact⟨aL HR.out.symm,bE.out⟩
  have hr2:(k == 2)=false:=by simpa using h2
  have hr3:(k == 3)=false:=by simpa using h3
  have hr4:(k == 4)=false:=by simpa using h4
  have zI:(k == 5)=false:=by simpa using h5
  have hg1:Grow w ((w.alloc (.cells #[.int .u8 k,.int .i64 n,.string s,.slice a l.length cap] 26)).alloc (.cells #[.slice fa f.slots.length fc,.int .i64 f.cells,.int .i64 f.stacks] 38)):=((Mv.refl _ _).alloc _).alloc _;have hN:=aO (heap_alloc_new w (.cells #[.int .u8 k,.int .i64 n,.string s,.slice a l.length cap] 26)) (.cells #[.slice fa f.slots.length fc,.int .i64 f.cells,.int .i64 f.stacks] 38);have hU:=heap_alloc_new (w.alloc (.cells #[.int .u8 k,.int .i64 n,.string s,.slice a l.length cap] 26)) (.cells #[.slice fa f.slots.length fc,.int .i64 f.cells,.int .i64 f.stacks] 38);rw[World.size_alloc]at hU;have bg:=ł hg1;have HU:=ł hU;have HN:=ł hN;clear hg1 hU hN;have dQ:=ł (show bO f (.mk k n s (ae.ts l))=jZ f (ae.ts l)from by simp[bO,h2,h3,h4,h5]);have jV:=bg;have qR:=HU;obtain⟨⟨n0,n1⟩,n2,n3⟩:=aF HN.out;have hln:=lt_of_block HN.out;clear h2 h3 h4 h5
  go_enter Tryz.func61,Tryz.ntmps61
  go_wp2_with fail;clear n0 n1 n2 n3 hln;generalize ((w.alloc (.cells #[.int .u8 k,.int .i64 n,.string s,.slice a l.length cap] 26)).alloc (.cells #[.slice fa f.slots.length fc,.int .i64 f.cells,.int .i64 f.stacks] 38))=w1 at *
  go_loopw [43] (λt wr=>∃ j:Nat,t = .int .i64 j/\j<=l.length/\(∀ i (h1:i<l.length),i<j->bO f l[i].t=true)/\Grow w1 wr) (λt _=>l.length - (intOf t).toNat)
  case atStart=>exact⟨0,rfl,Nat.zero_le _,λi _ h=>by omega,Mv.refl _ _⟩
  obtain⟨j,rfl,hj,hall,hgr⟩:=hrel;have dP:=ł hall;have dh:=ł hgr;have bE:=ł (Mv.trans jV.out hgr (λ_ e=>e.elim));have eu:=ai qR.out hgr;have u0:wr.cell? ⟨w.heap.size+1,0,none⟩=some (.slice fa f.slots.length fc):=by simp[World.cell?,eu]
  have u1:wr.cell? ⟨w.heap.size+1,1,none⟩=some (.int .i64 f.cells):=by simp[World.cell?,eu]
  have u2:wr.cell? ⟨w.heap.size+1,2,none⟩=some (.int .i64 f.stacks):=by simp[World.cell?,eu]
  have mZ:=lt_of_block eu;clear hall hgr eu;by_cases hlt:j<l.length
  · obtain⟨b,off,cap',e,_,hcc⟩:=(HX.out.row.2.2.2.1.later bE.out).at hlt;simp only[Value.slice.injEq,true_and]at e;obtain⟨rfl,rfl⟩:=e;have bU:=HX.out.row.2.2.2.2 l[j] (List.getElem_mem hlt);have HI:=ł (λw' (h:Grow wr w')=>fT.out l[j] (List.getElem_mem hlt) w' (Mv.trans bE.out h (λ_ e=>e.elim)));have HST:=ł (show(bO f l[j].t=true->∀ i (h1:i<l.length),i<j+1->bO f l[i].t=true)from λh i h1 hij=>by
     rcases Nat.lt_or_ge i j with h3|h3
     · exact dP.out i h1 h3
     · obtain rfl:i=j:=by omega
       exact h)
    have dS:=ł (show(bO f l[j].t=false->jZ f (ae.ts l)=false)from λh=>by
     rw[um];exact List.all_eq_false.2 ⟨l[j].t,by rw[ae.ku];exact List.mem_map.2 ⟨l[j],List.getElem_mem hlt,rfl⟩,by rw[h];simp⟩)
    generalize l[j]=y at HST dS HI bU hcc;obtain⟨yk,yn,ys,mY,yl⟩:=y;obtain⟨ya,yc,rfl,-,-⟩:=bU.form;simp only[ae.val]at HI;have c0:=hcc 0 _ rfl;have c1:=hcc 1 _ rfl;have c2:=hcc 2 _ rfl;have c3:=hcc 3 _ rfl;simp only[Nat.add_zero]at c0;have hbl:b<wr.heap.size:=World.block_lt_of_cell? wr _ c0
    have aK:=ł (dh.out.alloc (.cells #[.int .u8 yk,.int .i64 yn,.string ys,.slice ya yl.length yc] 26));have eB:=ł (bE.out.alloc (.cells #[.int .u8 yk,.int .i64 yn,.string ys,.slice ya yl.length yc] 26));have HC:=ł (HI.out (wr.alloc (.cells #[.int .u8 yk,.int .i64 yn,.string ys,.slice ya yl.length yc] 26)) ((Mv.refl _ _).alloc _));generalize bO f (ae.mk yk yn ys (.slice ya yl.length yc) yl).t=bv at *;clear hcc bU;go_wp2_with fail;refine HC.out.mono ?_;rintro e w5 ⟨rfl,hg5⟩;have aT:=ł (Mv.trans aK.out hg5 (λ_ e=>e.elim));have dw:=ł (Mv.trans eB.out hg5 (λ_ e=>e.elim));clear hg5;cases bv with
    |true =>
     have aY:=ł (HST.out rfl);go_wp2_with fail
     go_roundw
     case rel=>exact⟨j+1,by go_num,by omega,aY.out,aT.out⟩
     case measure=>simp[intOf];omega
    |false =>
     have HR:=ł (show bO f (.mk k n s (ae.ts l))=false from by rw[dQ.out,dS.out rfl]);go_wp2_with fail;go_ret;exact⟨aL HR.out.symm,dw.out⟩
  obtain rfl:j=l.length:=by omega
  have HR:=ł (show bO f (.mk k n s (ae.ts l))=true from by
   rw[dQ.out,um];refine List.all_eq_true.2 λt ht => ?_;rw[ae.ku]at ht;obtain⟨x,hx,rfl⟩:=List.mem_map.1 ht;obtain⟨i,hi,rfl⟩:=List.mem_iff_getElem.1 hx;exact dP.out i hi hi)
  go_wp2_with fail;go_ret;exact⟨aL HR.out.symm,bE.out⟩
theorem WU (sv:Value) (f:az) (x:ae) (w:World) (hf:fV w sv f) (hx:aS w x) :
 Calls Tryz.prog 61 #[x.val,.agg #[sv,.int .i64 f.cells,.int .i64 f.stacks]] w (iK w (bO f x.t)):=WT sv f _ x (Nat.le_refl _) w hf hx
end Go.Proofs.YtnobahchcongnaaGreat
