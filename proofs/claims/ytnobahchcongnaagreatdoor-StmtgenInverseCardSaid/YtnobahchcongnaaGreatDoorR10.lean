import Derived.Test.YtnobahchcongnaaGreatDoorR09
set_option linter.unusedSimpArgs false
set_option linter.unusedVariables false
set_option maxRecDepth 100000
set_option maxHeartbeats 25600000
namespace Go.Proofs.YtnobahchcongnaaGreatDoor
open Go.RowKit Go.Instr
theorem Xt (l:List Tree) (t:Tree):jT (l ++ [t])=max (jT l) (iL t):=by
 induction l with
 |nil=>simp[jT]
 |cons x l ih=>simp only[List.cons_append,jT,ih];omega
theorem Pt (l:List Tree) (j:Nat) (h:j<l.length):jT (l.take (j+1))=max (jT (l.take j)) (iL l[j]):=by
 rw[List.take_succ_eq_append_getElem h,Xt]
theorem KF (l:List Tree) (j:Nat) (h:j<l.length):iL l[j]<=jT l:=by
 induction l generalizing j with
 |nil=>simp at h
 |cons t l ih =>
  cases j with
  |zero=>simp only[List.getElem_cons_zero,jT];omega
  |succ j=>have:=ih j (by simpa using h);simp only[List.getElem_cons_succ,jT];omega
theorem WX (l:List Tree) (j:Nat) (h:j<=l.length):jT (l.take j)<=jT l:=by
 induction j with
 |zero=>simp[jT]
 |succ j ih =>
  rw[Pt l j (by omega)];have:=ih (by omega);have:=KF l j (by omega);omega
theorem Zm:∀ (m:Nat) (x:ae),SizeOf.sizeOf x<=m->iL x.t<=1000000->∀ w:World,aR w x->Calls Tryz.prog 71 #[x.val] w λe w'=>e = .returned (.int .i64 (iL x.t))/\Grow w w':=by
 intro m
 induction m with
 |zero=>intro x hm;cases x;simp at hm
 |succ m ih =>
  intro x hm hd w hx;obtain⟨k,n,s,kv,l⟩:=x;obtain⟨a,cap,rfl,hcap,hlen⟩:=hx.form;have EY:=ł (show iL (ae.mk k n s (.slice a l.length cap) l).t=jT (ae.ts l)+1 from by simp only[ae.t,iL]);rw[EY.out]at hd;have iB:=ł (λ(j:Nat) (hj:j<l.length) (w':World) (hg:Grow w w')=>ih l[j] (by have:=ng (k:=k) (n:=n) (s:=s) (kv := .slice a l.length cap) (List.getElem_mem hj);omega) (by
   have:=KF (ae.ts l) j (by rw[ae.cz];exact hj);rw[ae.gW l j hj]at this
   omega) w' ((hx.row.2.2.2.2 l[j] (List.getElem_mem hj)).later hg))
  have HX:=ł hx;have HD:=ł hd;clear ih hm hx hd;simp only[ae.val];have HG:=ł (show Grow w (w.alloc (.cells #[.int .u8 k,.int .i64 n,.string s,.slice a l.length cap] 24))from(Mv.refl _ _).alloc _)
  go_enter Tryz.func71,Tryz.ntmps71
  go_wp2_with fail;generalize w.alloc (.cells #[.int .u8 k,.int .i64 n,.string s,.slice a l.length cap] 24)=w1 at *
  go_loopw [3,9] (λdv t wr=>∃ j:Nat,dv = .int .i64 (jT ((ae.ts l).take j))/\t = .int .i64 j/\j<=l.length/\Grow w1 wr) (λ_ t _=>l.length - (intOf t).toNat)
  case atStart=>exact⟨0,by simp[jT],rfl,Nat.zero_le _,Mv.refl _ _⟩
  obtain⟨j,rfl,rfl,hj,hgr⟩:=hrel;have bS:=ł hgr;have bf:=ł (Mv.trans HG.out hgr (λ_ e=>e.elim));clear hgr;have hdj:=WX (ae.ts l) j (by rw[ae.cz];exact hj);have hd:=HD.out;by_cases hlt:j<l.length
  · obtain⟨b,off,cap',e,_,hcc⟩:=(HX.out.row.2.2.2.1.later bf.out).at hlt;simp only[Value.slice.injEq,true_and]at e;obtain⟨rfl,rfl⟩:=e;have bM:=HX.out.row.2.2.2.2 l[j] (List.getElem_mem hlt);have HI:=ł (λw' (h:Grow wr w')=>iB.out j hlt w' (Mv.trans bf.out h (λ_ e=>e.elim)));have EZ:=ł (by have:=Pt (ae.ts l) j (by rw[ae.cz];exact hlt);rw[ae.gW l j hlt]at this;exact this);generalize l[j]=y at HI EZ bM hcc;obtain⟨yk,yn,ys,mE,yl⟩:=y;obtain⟨ya,yc,rfl,-,-⟩:=bM.form;simp only[ae.val]at HI;have c0:=hcc 0 _ rfl;have c1:=hcc 1 _ rfl;have c2:=hcc 2 _ rfl;have c3:=hcc 3 _ rfl;simp only[Nat.add_zero]at c0;have hbl:b<wr.heap.size:=World.block_lt_of_cell? wr _ c0
    have HC:=ł (HI.out (wr.alloc (.cells #[.int .u8 yk,.int .i64 yn,.string ys,.slice ya yl.length yc] 24)) ((Mv.refl _ _).alloc _));have aM:=ł (bS.out.alloc (.cells #[.int .u8 yk,.int .i64 yn,.string ys,.slice ya yl.length yc] 24));generalize iL (ae.mk yk yn ys (.slice ya yl.length yc) yl).t=dy at *;generalize jT ((ae.ts l).take j)=dj at *;clear hcc bM;go_wp2_with fail;refine HC.out.mono ?_;rintro e w5 ⟨rfl,hg5⟩;have aU:=ł (Mv.trans aM.out hg5 (λ_ e=>e.elim));clear hg5;go_wp2_with fail
    go_roundw
    case rel=>exact⟨j+1,by rw[EZ.out];congr 1;omega,by go_num,by omega,aU.out⟩
    case measure=>simp[intOf];omega
  obtain rfl:j=l.length:=by omega
  have iI:=ł (show(ae.ts l).take l.length=ae.ts l from List.take_of_length_le (by rw[ae.cz];exact Nat.le_refl _));rw[iI.out]at hdj ⊢;generalize jT (ae.ts l)=dd at *;go_wp2_with fail;go_ret;exact⟨iF (by rw[EY.out];omega),bf.out⟩
theorem Zn (x:ae) (w:World) (h:aR w x) (hd:iL x.t<=1000000):Calls Tryz.prog 71 #[x.val] w λe w'=>e = .returned (.int .i64 (iL x.t))/\Grow w w':=Zm _ x (Nat.le_refl _) hd w h
mutual
def bK (f:ax):Tree->Bool
 |.mk k _ s l =>
  if k=2 then(au f s 1).isSome && kD f l
  else if k=3 then(au f s 2).isSome && kD f l
  else if k=4\/k=5 then(au f s 3).isSome && kD f l
  else kD f l
def kD (f:ax):List Tree->Bool
 | []=>true
 |t :: l=>bK f t && kD f l
end
theorem uT (f:ax) (l:List Tree):kD f l=l.all (bK f):=by
 induction l with
 |nil=>rw[kD];rfl
 |cons t l ih=>rw[kD,ih];rfl
theorem Yq (sv:Value) (f:ax):∀ (m:Nat) (x:ae),SizeOf.sizeOf x<=m->∀ w:World,fE w sv f->aR w x ->
 Calls Tryz.prog 70 #[x.val,.agg #[sv,.int .i64 f.cells,.int .i64 f.stacks]] w (jy w (bK f x.t)):=by
 intro m
 induction m with
 |zero=>intro x hm;cases x;simp at hm
 |succ m ih =>
  intro x hm w hf hx;obtain⟨k,n,s,kv,l⟩:=x;obtain⟨a,cap,rfl,hcap,hlen⟩:=hx.form;obtain⟨fa,fc,rfl,hfc,hfl⟩:=hf.row.form;have iB:=ł (λ(y:ae) (hy:y∈l) (w':World) (hg:Grow w w')=>ih y (by have:=ng (k:=k) (n:=n) (s:=s) (kv := .slice a l.length cap) hy;omega) w' (hf.later hg) ((hx.row.2.2.2.2 y hy).later hg));have HF:=ł hf;have HX:=ł hx;clear ih hm hf hx;simp only[ae.val,ae.t];by_cases h2:k=2
  · subst h2;have hg1:Grow w ((w.alloc (.cells #[.int .u8 2,.int .i64 n,.string s,.slice a l.length cap] 24)).alloc (.cells #[.slice fa f.slots.length fc,.int .i64 f.cells,.int .i64 f.stacks] 27)):=((Mv.refl _ _).alloc _).alloc _;have hN:=aS (heap_alloc_new w (.cells #[.int .u8 2,.int .i64 n,.string s,.slice a l.length cap] 24)) (.cells #[.slice fa f.slots.length fc,.int .i64 f.cells,.int .i64 f.stacks] 27);have hU:=heap_alloc_new (w.alloc (.cells #[.int .u8 2,.int .i64 n,.string s,.slice a l.length cap] 24)) (.cells #[.slice fa f.slots.length fc,.int .i64 f.cells,.int .i64 f.stacks] 27);rw[World.size_alloc]at hU;have df:=ł hg1;have HU:=ł hU;have HN:=ł hN;clear hg1 hU hN;have kK:=ł (oZ (.slice fa f.slots.length fc) f s 1 ((w.alloc (.cells #[.int .u8 2,.int .i64 n,.string s,.slice a l.length cap] 24)).alloc (.cells #[.slice fa f.slots.length fc,.int .i64 f.cells,.int .i64 f.stacks] 27)) (HF.out.later df.out));have ed:=ł (show(au f s 1).isSome=true->bK f (.mk 2 n s (ae.ts l))=kD f (ae.ts l)from λh=>by simp[bK,h]);have xL:=ł (show(au f s 1).isSome=false->bK f (.mk 2 n s (ae.ts l))=false from λh=>by simp[bK,h])
    go_enter Tryz.func70,Tryz.ntmps70
    go_wp2_with fail;generalize ((w.alloc (.cells #[.int .u8 2,.int .i64 n,.string s,.slice a l.length cap] 24)).alloc (.cells #[.slice fa f.slots.length fc,.int .i64 f.cells,.int .i64 f.stacks] 27))=w1 at *;refine kK.out.mono ?_;rintro e w2 ⟨rfl,hg2⟩;have j6:=ł (Mv.trans df.out hg2 (λ_ e=>e.elim));have q9:=ł (ai HU.out hg2);have fK:=ai HN.out hg2;obtain⟨⟨n0,n1⟩,n2,n3⟩:=aC fK;have hln:=lt_of_block fK;generalize (au f s 1).isSome=pb at *;generalize (au f s 1).getD noSlot=sl at *;clear hg2 fK kK;cases pb with
    |false =>
     have HR:=ł (xL.out rfl);go_wp2_with fail;go_ret;exact⟨aK HR.out.symm,j6.out⟩
    |true =>
    have pE:=ł (ed.out rfl);clear ed;have ed:=pE;clear pE;go_wp2_with fail;clear n0 n1 n2 n3 hln
    go_loopw [43] (λt wr=>∃ j:Nat,t = .int .i64 j/\j<=l.length/\(∀ i (h1:i<l.length),i<j->bK f l[i].t=true)/\Grow w2 wr) (λt _=>l.length - (intOf t).toNat)
    case atStart=>exact⟨0,rfl,Nat.zero_le _,λi _ h=>by omega,Mv.refl _ _⟩
    obtain⟨j,rfl,hj,hall,hgr⟩:=hrel;have dE:=ł hall;have bS:=ł hgr;have bf:=ł (Mv.trans j6.out hgr (λ_ e=>e.elim));have eU:=ai q9.out hgr;have u0:wr.cell? ⟨w.heap.size+1,0,none⟩=some (.slice fa f.slots.length fc):=by simp[World.cell?,eU]
    have u1:wr.cell? ⟨w.heap.size+1,1,none⟩=some (.int .i64 f.cells):=by simp[World.cell?,eU]
    have u2:wr.cell? ⟨w.heap.size+1,2,none⟩=some (.int .i64 f.stacks):=by simp[World.cell?,eU]
    have mX:=lt_of_block eU;clear hall hgr eU;by_cases hlt:j<l.length
    · obtain⟨b,off,cap',e,_,hcc⟩:=(HX.out.row.2.2.2.1.later bf.out).at hlt;simp only[Value.slice.injEq,true_and]at e;obtain⟨rfl,rfl⟩:=e;have bM:=HX.out.row.2.2.2.2 l[j] (List.getElem_mem hlt);have HI:=ł (λw' (h:Grow wr w')=>iB.out l[j] (List.getElem_mem hlt) w' (Mv.trans bf.out h (λ_ e=>e.elim)));have HST:=ł (show(bK f l[j].t=true->∀ i (h1:i<l.length),i<j+1->bK f l[i].t=true)from λh i h1 hij=>by
       rcases Nat.lt_or_ge i j with h3|h3
       · exact dE.out i h1 h3
       · obtain rfl:i=j:=by omega
         exact h)
      have dV:=ł (show(bK f l[j].t=false->kD f (ae.ts l)=false)from λh=>by
       rw[uT];exact List.all_eq_false.2 ⟨l[j].t,by rw[ae.gV];exact List.mem_map.2 ⟨l[j],List.getElem_mem hlt,rfl⟩,by rw[h];simp⟩)
      generalize l[j]=y at HST dV HI bM hcc;obtain⟨yk,yn,ys,mE,yl⟩:=y;obtain⟨ya,yc,rfl,-,-⟩:=bM.form;simp only[ae.val]at HI;have c0:=hcc 0 _ rfl;have c1:=hcc 1 _ rfl;have c2:=hcc 2 _ rfl;have c3:=hcc 3 _ rfl;simp only[Nat.add_zero]at c0;have hbl:b<wr.heap.size:=World.block_lt_of_cell? wr _ c0
      have aM:=ł (bS.out.alloc (.cells #[.int .u8 yk,.int .i64 yn,.string ys,.slice ya yl.length yc] 24));have dR:=ł (bf.out.alloc (.cells #[.int .u8 yk,.int .i64 yn,.string ys,.slice ya yl.length yc] 24));have HC:=ł (HI.out (wr.alloc (.cells #[.int .u8 yk,.int .i64 yn,.string ys,.slice ya yl.length yc] 24)) ((Mv.refl _ _).alloc _));generalize bK f (ae.mk yk yn ys (.slice ya yl.length yc) yl).t=bv at *;clear hcc bM;go_wp2_with fail;refine HC.out.mono ?_;rintro e w5 ⟨rfl,hg5⟩;have aU:=ł (Mv.trans aM.out hg5 (λ_ e=>e.elim));have di:=ł (Mv.trans dR.out hg5 (λ_ e=>e.elim));clear hg5;cases bv with
      |true =>
       have bA:=ł (HST.out rfl);go_wp2_with fail
       go_roundw
       case rel=>exact⟨j+1,by go_num,by omega,bA.out,aU.out⟩
       case measure=>simp[intOf];omega
      |false =>
       have HR:=ł (show bK f (.mk 2 n s (ae.ts l))=false from by rw[ed.out,dV.out rfl]);go_wp2_with fail;go_ret;exact⟨aK HR.out.symm,di.out⟩
    obtain rfl:j=l.length:=by omega
    have HR:=ł (show bK f (.mk 2 n s (ae.ts l))=true from by
     rw[ed.out,uT];refine List.all_eq_true.2 λt ht => ?_;rw[ae.gV]at ht;obtain⟨x,hx,rfl⟩:=List.mem_map.1 ht;obtain⟨i,hi,rfl⟩:=List.mem_iff_getElem.1 hx;exact dE.out i hi hi)
    go_wp2_with fail;go_ret;exact⟨aK HR.out.symm,bf.out⟩
  by_cases h3:k=3
  · subst h3;have hg1:Grow w ((w.alloc (.cells #[.int .u8 3,.int .i64 n,.string s,.slice a l.length cap] 24)).alloc (.cells #[.slice fa f.slots.length fc,.int .i64 f.cells,.int .i64 f.stacks] 27)):=((Mv.refl _ _).alloc _).alloc _;have hN:=aS (heap_alloc_new w (.cells #[.int .u8 3,.int .i64 n,.string s,.slice a l.length cap] 24)) (.cells #[.slice fa f.slots.length fc,.int .i64 f.cells,.int .i64 f.stacks] 27);have hU:=heap_alloc_new (w.alloc (.cells #[.int .u8 3,.int .i64 n,.string s,.slice a l.length cap] 24)) (.cells #[.slice fa f.slots.length fc,.int .i64 f.cells,.int .i64 f.stacks] 27);rw[World.size_alloc]at hU;have df:=ł hg1;have HU:=ł hU;have HN:=ł hN;clear hg1 hU hN;have kK:=ł (oZ (.slice fa f.slots.length fc) f s 2 ((w.alloc (.cells #[.int .u8 3,.int .i64 n,.string s,.slice a l.length cap] 24)).alloc (.cells #[.slice fa f.slots.length fc,.int .i64 f.cells,.int .i64 f.stacks] 27)) (HF.out.later df.out));have ed:=ł (show(au f s 2).isSome=true->bK f (.mk 3 n s (ae.ts l))=kD f (ae.ts l)from λh=>by simp[bK,h]);have xL:=ł (show(au f s 2).isSome=false->bK f (.mk 3 n s (ae.ts l))=false from λh=>by simp[bK,h])
    go_enter Tryz.func70,Tryz.ntmps70
    go_wp2_with fail;generalize ((w.alloc (.cells #[.int .u8 3,.int .i64 n,.string s,.slice a l.length cap] 24)).alloc (.cells #[.slice fa f.slots.length fc,.int .i64 f.cells,.int .i64 f.stacks] 27))=w1 at *;refine kK.out.mono ?_;rintro e w2 ⟨rfl,hg2⟩;have j6:=ł (Mv.trans df.out hg2 (λ_ e=>e.elim));have q9:=ł (ai HU.out hg2);have fK:=ai HN.out hg2;obtain⟨⟨n0,n1⟩,n2,n3⟩:=aC fK;have hln:=lt_of_block fK;generalize (au f s 2).isSome=pb at *;generalize (au f s 2).getD noSlot=sl at *;clear hg2 fK kK;cases pb with
    |false =>
     have HR:=ł (xL.out rfl);go_wp2_with fail;go_ret;exact⟨aK HR.out.symm,j6.out⟩
    |true =>
    have pE:=ł (ed.out rfl);clear ed;have ed:=pE;clear pE;go_wp2_with fail;clear n0 n1 n2 n3 hln
    go_loopw [43] (λt wr=>∃ j:Nat,t = .int .i64 j/\j<=l.length/\(∀ i (h1:i<l.length),i<j->bK f l[i].t=true)/\Grow w2 wr) (λt _=>l.length - (intOf t).toNat)
    case atStart=>exact⟨0,rfl,Nat.zero_le _,λi _ h=>by omega,Mv.refl _ _⟩
    obtain⟨j,rfl,hj,hall,hgr⟩:=hrel;have dE:=ł hall;have bS:=ł hgr;have bf:=ł (Mv.trans j6.out hgr (λ_ e=>e.elim));have eU:=ai q9.out hgr;have u0:wr.cell? ⟨w.heap.size+1,0,none⟩=some (.slice fa f.slots.length fc):=by simp[World.cell?,eU]
    have u1:wr.cell? ⟨w.heap.size+1,1,none⟩=some (.int .i64 f.cells):=by simp[World.cell?,eU]
    have u2:wr.cell? ⟨w.heap.size+1,2,none⟩=some (.int .i64 f.stacks):=by simp[World.cell?,eU]
    have mX:=lt_of_block eU;clear hall hgr eU;by_cases hlt:j<l.length
    · obtain⟨b,off,cap',e,_,hcc⟩:=(HX.out.row.2.2.2.1.later bf.out).at hlt;simp only[Value.slice.injEq,true_and]at e;obtain⟨rfl,rfl⟩:=e;have bM:=HX.out.row.2.2.2.2 l[j] (List.getElem_mem hlt);have HI:=ł (λw' (h:Grow wr w')=>iB.out l[j] (List.getElem_mem hlt) w' (Mv.trans bf.out h (λ_ e=>e.elim)));have HST:=ł (show(bK f l[j].t=true->∀ i (h1:i<l.length),i<j+1->bK f l[i].t=true)from λh i h1 hij=>by
       rcases Nat.lt_or_ge i j with h3|h3
       · exact dE.out i h1 h3
       · obtain rfl:i=j:=by omega
         exact h)
      have dV:=ł (show(bK f l[j].t=false->kD f (ae.ts l)=false)from λh=>by
       rw[uT];exact List.all_eq_false.2 ⟨l[j].t,by rw[ae.gV];exact List.mem_map.2 ⟨l[j],List.getElem_mem hlt,rfl⟩,by rw[h];simp⟩)
      generalize l[j]=y at HST dV HI bM hcc;obtain⟨yk,yn,ys,mE,yl⟩:=y;obtain⟨ya,yc,rfl,-,-⟩:=bM.form;simp only[ae.val]at HI;have c0:=hcc 0 _ rfl;have c1:=hcc 1 _ rfl;have c2:=hcc 2 _ rfl;have c3:=hcc 3 _ rfl;simp only[Nat.add_zero]at c0;have hbl:b<wr.heap.size:=World.block_lt_of_cell? wr _ c0
      have aM:=ł (bS.out.alloc (.cells #[.int .u8 yk,.int .i64 yn,.string ys,.slice ya yl.length yc] 24));have dR:=ł (bf.out.alloc (.cells #[.int .u8 yk,.int .i64 yn,.string ys,.slice ya yl.length yc] 24));have HC:=ł (HI.out (wr.alloc (.cells #[.int .u8 yk,.int .i64 yn,.string ys,.slice ya yl.length yc] 24)) ((Mv.refl _ _).alloc _));generalize bK f (ae.mk yk yn ys (.slice ya yl.length yc) yl).t=bv at *;clear hcc bM;go_wp2_with fail;refine HC.out.mono ?_;rintro e w5 ⟨rfl,hg5⟩;have aU:=ł (Mv.trans aM.out hg5 (λ_ e=>e.elim));have di:=ł (Mv.trans dR.out hg5 (λ_ e=>e.elim));clear hg5;cases bv with
      |true =>
       have bA:=ł (HST.out rfl);go_wp2_with fail
       go_roundw
       case rel=>exact⟨j+1,by go_num,by omega,bA.out,aU.out⟩
       case measure=>simp[intOf];omega
      |false =>
       have HR:=ł (show bK f (.mk 3 n s (ae.ts l))=false from by rw[ed.out,dV.out rfl]);go_wp2_with fail;go_ret;exact⟨aK HR.out.symm,di.out⟩
    obtain rfl:j=l.length:=by omega
    have HR:=ł (show bK f (.mk 3 n s (ae.ts l))=true from by
     rw[ed.out,uT];refine List.all_eq_true.2 λt ht => ?_;rw[ae.gV]at ht;obtain⟨x,hx,rfl⟩:=List.mem_map.1 ht;obtain⟨i,hi,rfl⟩:=List.mem_iff_getElem.1 hx;exact dE.out i hi hi)
    go_wp2_with fail;go_ret;exact⟨aK HR.out.symm,bf.out⟩
  by_cases h4:k=4
  · subst h4;have hg1:Grow w ((w.alloc (.cells #[.int .u8 4,.int .i64 n,.string s,.slice a l.length cap] 24)).alloc (.cells #[.slice fa f.slots.length fc,.int .i64 f.cells,.int .i64 f.stacks] 27)):=((Mv.refl _ _).alloc _).alloc _;have hN:=aS (heap_alloc_new w (.cells #[.int .u8 4,.int .i64 n,.string s,.slice a l.length cap] 24)) (.cells #[.slice fa f.slots.length fc,.int .i64 f.cells,.int .i64 f.stacks] 27);have hU:=heap_alloc_new (w.alloc (.cells #[.int .u8 4,.int .i64 n,.string s,.slice a l.length cap] 24)) (.cells #[.slice fa f.slots.length fc,.int .i64 f.cells,.int .i64 f.stacks] 27);rw[World.size_alloc]at hU;have df:=ł hg1;have HU:=ł hU;have HN:=ł hN;clear hg1 hU hN;have kK:=ł (oZ (.slice fa f.slots.length fc) f s 3 ((w.alloc (.cells #[.int .u8 4,.int .i64 n,.string s,.slice a l.length cap] 24)).alloc (.cells #[.slice fa f.slots.length fc,.int .i64 f.cells,.int .i64 f.stacks] 27)) (HF.out.later df.out));have ed:=ł (show(au f s 3).isSome=true->bK f (.mk 4 n s (ae.ts l))=kD f (ae.ts l)from λh=>by simp[bK,h]);have xL:=ł (show(au f s 3).isSome=false->bK f (.mk 4 n s (ae.ts l))=false from λh=>by simp[bK,h])
    go_enter Tryz.func70,Tryz.ntmps70
    go_wp2_with fail;generalize ((w.alloc (.cells #[.int .u8 4,.int .i64 n,.string s,.slice a l.length cap] 24)).alloc (.cells #[.slice fa f.slots.length fc,.int .i64 f.cells,.int .i64 f.stacks] 27))=w1 at *;refine kK.out.mono ?_;rintro e w2 ⟨rfl,hg2⟩;have j6:=ł (Mv.trans df.out hg2 (λ_ e=>e.elim));have q9:=ł (ai HU.out hg2);have fK:=ai HN.out hg2;obtain⟨⟨n0,n1⟩,n2,n3⟩:=aC fK;have hln:=lt_of_block fK;generalize (au f s 3).isSome=pb at *;generalize (au f s 3).getD noSlot=sl at *;clear hg2 fK kK;cases pb with
    |false =>
     have HR:=ł (xL.out rfl);go_wp2_with fail;go_ret;exact⟨aK HR.out.symm,j6.out⟩
    |true =>
    have pE:=ł (ed.out rfl);clear ed;have ed:=pE;clear pE;go_wp2_with fail;clear n0 n1 n2 n3 hln
    go_loopw [43] (λt wr=>∃ j:Nat,t = .int .i64 j/\j<=l.length/\(∀ i (h1:i<l.length),i<j->bK f l[i].t=true)/\Grow w2 wr) (λt _=>l.length - (intOf t).toNat)
    case atStart=>exact⟨0,rfl,Nat.zero_le _,λi _ h=>by omega,Mv.refl _ _⟩
    obtain⟨j,rfl,hj,hall,hgr⟩:=hrel;have dE:=ł hall;have bS:=ł hgr;have bf:=ł (Mv.trans j6.out hgr (λ_ e=>e.elim));have eU:=ai q9.out hgr;have u0:wr.cell? ⟨w.heap.size+1,0,none⟩=some (.slice fa f.slots.length fc):=by simp[World.cell?,eU]
    have u1:wr.cell? ⟨w.heap.size+1,1,none⟩=some (.int .i64 f.cells):=by simp[World.cell?,eU]
    have u2:wr.cell? ⟨w.heap.size+1,2,none⟩=some (.int .i64 f.stacks):=by simp[World.cell?,eU]
    have mX:=lt_of_block eU;clear hall hgr eU;by_cases hlt:j<l.length
    · obtain⟨b,off,cap',e,_,hcc⟩:=(HX.out.row.2.2.2.1.later bf.out).at hlt;simp only[Value.slice.injEq,true_and]at e;obtain⟨rfl,rfl⟩:=e;have bM:=HX.out.row.2.2.2.2 l[j] (List.getElem_mem hlt);have HI:=ł (λw' (h:Grow wr w')=>iB.out l[j] (List.getElem_mem hlt) w' (Mv.trans bf.out h (λ_ e=>e.elim)));have HST:=ł (show(bK f l[j].t=true->∀ i (h1:i<l.length),i<j+1->bK f l[i].t=true)from λh i h1 hij=>by
       rcases Nat.lt_or_ge i j with h3|h3
       · exact dE.out i h1 h3
       · obtain rfl:i=j:=by omega
         exact h)
      have dV:=ł (show(bK f l[j].t=false->kD f (ae.ts l)=false)from λh=>by
       rw[uT];exact List.all_eq_false.2 ⟨l[j].t,by rw[ae.gV];exact List.mem_map.2 ⟨l[j],List.getElem_mem hlt,rfl⟩,by rw[h];simp⟩)
      generalize l[j]=y at HST dV HI bM hcc;obtain⟨yk,yn,ys,mE,yl⟩:=y;obtain⟨ya,yc,rfl,-,-⟩:=bM.form;simp only[ae.val]at HI;have c0:=hcc 0 _ rfl;have c1:=hcc 1 _ rfl;have c2:=hcc 2 _ rfl;have c3:=hcc 3 _ rfl;simp only[Nat.add_zero]at c0;have hbl:b<wr.heap.size:=World.block_lt_of_cell? wr _ c0
      have aM:=ł (bS.out.alloc (.cells #[.int .u8 yk,.int .i64 yn,.string ys,.slice ya yl.length yc] 24));have dR:=ł (bf.out.alloc (.cells #[.int .u8 yk,.int .i64 yn,.string ys,.slice ya yl.length yc] 24));have HC:=ł (HI.out (wr.alloc (.cells #[.int .u8 yk,.int .i64 yn,.string ys,.slice ya yl.length yc] 24)) ((Mv.refl _ _).alloc _));generalize bK f (ae.mk yk yn ys (.slice ya yl.length yc) yl).t=bv at *;clear hcc bM;go_wp2_with fail;refine HC.out.mono ?_;rintro e w5 ⟨rfl,hg5⟩;have aU:=ł (Mv.trans aM.out hg5 (λ_ e=>e.elim));have di:=ł (Mv.trans dR.out hg5 (λ_ e=>e.elim));clear hg5;cases bv with
      |true =>
       have bA:=ł (HST.out rfl);go_wp2_with fail
       go_roundw
       case rel=>exact⟨j+1,by go_num,by omega,bA.out,aU.out⟩
       case measure=>simp[intOf];omega
      |false =>
       have HR:=ł (show bK f (.mk 4 n s (ae.ts l))=false from by rw[ed.out,dV.out rfl]);go_wp2_with fail;go_ret;exact⟨aK HR.out.symm,di.out⟩
    obtain rfl:j=l.length:=by omega
    have HR:=ł (show bK f (.mk 4 n s (ae.ts l))=true from by
     rw[ed.out,uT];refine List.all_eq_true.2 λt ht => ?_;rw[ae.gV]at ht;obtain⟨x,hx,rfl⟩:=List.mem_map.1 ht;obtain⟨i,hi,rfl⟩:=List.mem_iff_getElem.1 hx;exact dE.out i hi hi)
    go_wp2_with fail;go_ret;exact⟨aK HR.out.symm,bf.out⟩
  by_cases h5:k=5
  · subst h5;have hg1:Grow w ((w.alloc (.cells #[.int .u8 5,.int .i64 n,.string s,.slice a l.length cap] 24)).alloc (.cells #[.slice fa f.slots.length fc,.int .i64 f.cells,.int .i64 f.stacks] 27)):=((Mv.refl _ _).alloc _).alloc _;have hN:=aS (heap_alloc_new w (.cells #[.int .u8 5,.int .i64 n,.string s,.slice a l.length cap] 24)) (.cells #[.slice fa f.slots.length fc,.int .i64 f.cells,.int .i64 f.stacks] 27);have hU:=heap_alloc_new (w.alloc (.cells #[.int .u8 5,.int .i64 n,.string s,.slice a l.length cap] 24)) (.cells #[.slice fa f.slots.length fc,.int .i64 f.cells,.int .i64 f.stacks] 27);rw[World.size_alloc]at hU;have df:=ł hg1;have HU:=ł hU;have HN:=ł hN;clear hg1 hU hN;have kK:=ł (oZ (.slice fa f.slots.length fc) f s 3 ((w.alloc (.cells #[.int .u8 5,.int .i64 n,.string s,.slice a l.length cap] 24)).alloc (.cells #[.slice fa f.slots.length fc,.int .i64 f.cells,.int .i64 f.stacks] 27)) (HF.out.later df.out));have ed:=ł (show(au f s 3).isSome=true->bK f (.mk 5 n s (ae.ts l))=kD f (ae.ts l)from λh=>by simp[bK,h]);have xL:=ł (show(au f s 3).isSome=false->bK f (.mk 5 n s (ae.ts l))=false from λh=>by simp[bK,h])
    go_enter Tryz.func70,Tryz.ntmps70
    go_wp2_with fail;generalize ((w.alloc (.cells #[.int .u8 5,.int .i64 n,.string s,.slice a l.length cap] 24)).alloc (.cells #[.slice fa f.slots.length fc,.int .i64 f.cells,.int .i64 f.stacks] 27))=w1 at *;refine kK.out.mono ?_;rintro e w2 ⟨rfl,hg2⟩;have j6:=ł (Mv.trans df.out hg2 (λ_ e=>e.elim));have q9:=ł (ai HU.out hg2);have fK:=ai HN.out hg2;obtain⟨⟨n0,n1⟩,n2,n3⟩:=aC fK;have hln:=lt_of_block fK;generalize (au f s 3).isSome=pb at *;generalize (au f s 3).getD noSlot=sl at *;clear hg2 fK kK;cases pb with
    |false =>
     have HR:=ł (xL.out rfl);go_wp2_with fail;go_ret;exact⟨aK HR.out.symm,j6.out⟩
    |true =>
    have pE:=ł (ed.out rfl);clear ed;have ed:=pE;clear pE;go_wp2_with fail;clear n0 n1 n2 n3 hln
    go_loopw [43] (λt wr=>∃ j:Nat,t = .int .i64 j/\j<=l.length/\(∀ i (h1:i<l.length),i<j->bK f l[i].t=true)/\Grow w2 wr) (λt _=>l.length - (intOf t).toNat)
    case atStart=>exact⟨0,rfl,Nat.zero_le _,λi _ h=>by omega,Mv.refl _ _⟩
    obtain⟨j,rfl,hj,hall,hgr⟩:=hrel;have dE:=ł hall;have bS:=ł hgr;have bf:=ł (Mv.trans j6.out hgr (λ_ e=>e.elim));have eU:=ai q9.out hgr;have u0:wr.cell? ⟨w.heap.size+1,0,none⟩=some (.slice fa f.slots.length fc):=by simp[World.cell?,eU]
    have u1:wr.cell? ⟨w.heap.size+1,1,none⟩=some (.int .i64 f.cells):=by simp[World.cell?,eU]
    have u2:wr.cell? ⟨w.heap.size+1,2,none⟩=some (.int .i64 f.stacks):=by simp[World.cell?,eU]
    have mX:=lt_of_block eU;clear hall hgr eU;by_cases hlt:j<l.length
    · obtain⟨b,off,cap',e,_,hcc⟩:=(HX.out.row.2.2.2.1.later bf.out).at hlt;simp only[Value.slice.injEq,true_and]at e;obtain⟨rfl,rfl⟩:=e;have bM:=HX.out.row.2.2.2.2 l[j] (List.getElem_mem hlt);have HI:=ł (λw' (h:Grow wr w')=>iB.out l[j] (List.getElem_mem hlt) w' (Mv.trans bf.out h (λ_ e=>e.elim)));have HST:=ł (show(bK f l[j].t=true->∀ i (h1:i<l.length),i<j+1->bK f l[i].t=true)from λh i h1 hij=>by
       rcases Nat.lt_or_ge i j with h3|h3
       · exact dE.out i h1 h3
       · obtain rfl:i=j:=by omega
         exact h)
      have dV:=ł (show(bK f l[j].t=false->kD f (ae.ts l)=false)from λh=>by
       rw[uT];exact List.all_eq_false.2 ⟨l[j].t,by rw[ae.gV];exact List.mem_map.2 ⟨l[j],List.getElem_mem hlt,rfl⟩,by rw[h];simp⟩)
      generalize l[j]=y at HST dV HI bM hcc;obtain⟨yk,yn,ys,mE,yl⟩:=y;obtain⟨ya,yc,rfl,-,-⟩:=bM.form;simp only[ae.val]at HI;have c0:=hcc 0 _ rfl;have c1:=hcc 1 _ rfl;have c2:=hcc 2 _ rfl;have c3:=hcc 3 _ rfl;simp only[Nat.add_zero]at c0;have hbl:b<wr.heap.size:=World.block_lt_of_cell? wr _ c0
      have aM:=ł (bS.out.alloc (.cells #[.int .u8 yk,.int .i64 yn,.string ys,.slice ya yl.length yc] 24));have dR:=ł (bf.out.alloc (.cells #[.int .u8 yk,.int .i64 yn,.string ys,.slice ya yl.length yc] 24));have HC:=ł (HI.out (wr.alloc (.cells #[.int .u8 yk,.int .i64 yn,.string ys,.slice ya yl.length yc] 24)) ((Mv.refl _ _).alloc _));generalize bK f (ae.mk yk yn ys (.slice ya yl.length yc) yl).t=bv at *;clear hcc bM;go_wp2_with fail;refine HC.out.mono ?_;rintro e w5 ⟨rfl,hg5⟩;have aU:=ł (Mv.trans aM.out hg5 (λ_ e=>e.elim));have di:=ł (Mv.trans dR.out hg5 (λ_ e=>e.elim));clear hg5;cases bv with
      |true =>
       have bA:=ł (HST.out rfl);go_wp2_with fail
       go_roundw
       case rel=>exact⟨j+1,by go_num,by omega,bA.out,aU.out⟩
       case measure=>simp[intOf];omega
      |false =>
       have HR:=ł (show bK f (.mk 5 n s (ae.ts l))=false from by rw[ed.out,dV.out rfl]);go_wp2_with fail;go_ret;exact⟨aK HR.out.symm,di.out⟩
    obtain rfl:j=l.length:=by omega
    have HR:=ł (show bK f (.mk 5 n s (ae.ts l))=true from by
     rw[ed.out,uT];refine List.all_eq_true.2 λt ht => ?_;rw[ae.gV]at ht;obtain⟨x,hx,rfl⟩:=List.mem_map.1 ht;obtain⟨i,hi,rfl⟩:=List.mem_iff_getElem.1 hx;exact dE.out i hi hi)
    go_wp2_with fail;go_ret;exact⟨aK HR.out.symm,bf.out⟩
  have hr2:(k == 2)=false:=by simpa using h2
  have hr3:(k == 3)=false:=by simpa using h3
  have hr4:(k == 4)=false:=by simpa using h4
  have qZ:(k == 5)=false:=by simpa using h5
  have hg1:Grow w ((w.alloc (.cells #[.int .u8 k,.int .i64 n,.string s,.slice a l.length cap] 24)).alloc (.cells #[.slice fa f.slots.length fc,.int .i64 f.cells,.int .i64 f.stacks] 27)):=((Mv.refl _ _).alloc _).alloc _;have hN:=aS (heap_alloc_new w (.cells #[.int .u8 k,.int .i64 n,.string s,.slice a l.length cap] 24)) (.cells #[.slice fa f.slots.length fc,.int .i64 f.cells,.int .i64 f.stacks] 27);have hU:=heap_alloc_new (w.alloc (.cells #[.int .u8 k,.int .i64 n,.string s,.slice a l.length cap] 24)) (.cells #[.slice fa f.slots.length fc,.int .i64 f.cells,.int .i64 f.stacks] 27);rw[World.size_alloc]at hU;have df:=ł hg1;have HU:=ł hU;have HN:=ł hN;clear hg1 hU hN;have ed:=ł (show bK f (.mk k n s (ae.ts l))=kD f (ae.ts l)from by simp[bK,h2,h3,h4,h5]);have j6:=df;have q9:=HU;obtain⟨⟨n0,n1⟩,n2,n3⟩:=aC HN.out;have hln:=lt_of_block HN.out;clear h2 h3 h4 h5
  go_enter Tryz.func70,Tryz.ntmps70
  go_wp2_with fail;clear n0 n1 n2 n3 hln;generalize ((w.alloc (.cells #[.int .u8 k,.int .i64 n,.string s,.slice a l.length cap] 24)).alloc (.cells #[.slice fa f.slots.length fc,.int .i64 f.cells,.int .i64 f.stacks] 27))=w1 at *
  go_loopw [43] (λt wr=>∃ j:Nat,t = .int .i64 j/\j<=l.length/\(∀ i (h1:i<l.length),i<j->bK f l[i].t=true)/\Grow w1 wr) (λt _=>l.length - (intOf t).toNat)
  case atStart=>exact⟨0,rfl,Nat.zero_le _,λi _ h=>by omega,Mv.refl _ _⟩
  obtain⟨j,rfl,hj,hall,hgr⟩:=hrel;have dE:=ł hall;have bS:=ł hgr;have bf:=ł (Mv.trans j6.out hgr (λ_ e=>e.elim));have eU:=ai q9.out hgr;have u0:wr.cell? ⟨w.heap.size+1,0,none⟩=some (.slice fa f.slots.length fc):=by simp[World.cell?,eU]
  have u1:wr.cell? ⟨w.heap.size+1,1,none⟩=some (.int .i64 f.cells):=by simp[World.cell?,eU]
  have u2:wr.cell? ⟨w.heap.size+1,2,none⟩=some (.int .i64 f.stacks):=by simp[World.cell?,eU]
  have mX:=lt_of_block eU;clear hall hgr eU;by_cases hlt:j<l.length
  · obtain⟨b,off,cap',e,_,hcc⟩:=(HX.out.row.2.2.2.1.later bf.out).at hlt;simp only[Value.slice.injEq,true_and]at e;obtain⟨rfl,rfl⟩:=e;have bM:=HX.out.row.2.2.2.2 l[j] (List.getElem_mem hlt);have HI:=ł (λw' (h:Grow wr w')=>iB.out l[j] (List.getElem_mem hlt) w' (Mv.trans bf.out h (λ_ e=>e.elim)));have HST:=ł (show(bK f l[j].t=true->∀ i (h1:i<l.length),i<j+1->bK f l[i].t=true)from λh i h1 hij=>by
     rcases Nat.lt_or_ge i j with h3|h3
     · exact dE.out i h1 h3
     · obtain rfl:i=j:=by omega
       exact h)
    have dV:=ł (show(bK f l[j].t=false->kD f (ae.ts l)=false)from λh=>by
     rw[uT];exact List.all_eq_false.2 ⟨l[j].t,by rw[ae.gV];exact List.mem_map.2 ⟨l[j],List.getElem_mem hlt,rfl⟩,by rw[h];simp⟩)
    generalize l[j]=y at HST dV HI bM hcc;obtain⟨yk,yn,ys,mE,yl⟩:=y;obtain⟨ya,yc,rfl,-,-⟩:=bM.form;simp only[ae.val]at HI;have c0:=hcc 0 _ rfl;have c1:=hcc 1 _ rfl;have c2:=hcc 2 _ rfl;have c3:=hcc 3 _ rfl;simp only[Nat.add_zero]at c0;have hbl:b<wr.heap.size:=World.block_lt_of_cell? wr _ c0
    have aM:=ł (bS.out.alloc (.cells #[.int .u8 yk,.int .i64 yn,.string ys,.slice ya yl.length yc] 24));have dR:=ł (bf.out.alloc (.cells #[.int .u8 yk,.int .i64 yn,.string ys,.slice ya yl.length yc] 24));have HC:=ł (HI.out (wr.alloc (.cells #[.int .u8 yk,.int .i64 yn,.string ys,.slice ya yl.length yc] 24)) ((Mv.refl _ _).alloc _));generalize bK f (ae.mk yk yn ys (.slice ya yl.length yc) yl).t=bv at *;clear hcc bM;go_wp2_with fail;refine HC.out.mono ?_;rintro e w5 ⟨rfl,hg5⟩;have aU:=ł (Mv.trans aM.out hg5 (λ_ e=>e.elim));have di:=ł (Mv.trans dR.out hg5 (λ_ e=>e.elim));clear hg5;cases bv with
    |true =>
     have bA:=ł (HST.out rfl);go_wp2_with fail
     go_roundw
     case rel=>exact⟨j+1,by go_num,by omega,bA.out,aU.out⟩
     case measure=>simp[intOf];omega
    |false =>
     have HR:=ł (show bK f (.mk k n s (ae.ts l))=false from by rw[ed.out,dV.out rfl]);go_wp2_with fail;go_ret;exact⟨aK HR.out.symm,di.out⟩
  obtain rfl:j=l.length:=by omega
  have HR:=ł (show bK f (.mk k n s (ae.ts l))=true from by
   rw[ed.out,uT];refine List.all_eq_true.2 λt ht => ?_;rw[ae.gV]at ht;obtain⟨x,hx,rfl⟩:=List.mem_map.1 ht;obtain⟨i,hi,rfl⟩:=List.mem_iff_getElem.1 hx;exact dE.out i hi hi)
  go_wp2_with fail;go_ret;exact⟨aK HR.out.symm,bf.out⟩
theorem Yr (sv:Value) (f:ax) (x:ae) (w:World) (hf:fE w sv f) (hx:aR w x) :
 Calls Tryz.prog 70 #[x.val,.agg #[sv,.int .i64 f.cells,.int .i64 f.stacks]] w (jy w (bK f x.t)):=Yq sv f _ x (Nat.le_refl _) w hf hx
end Go.Proofs.YtnobahchcongnaaGreatDoor
