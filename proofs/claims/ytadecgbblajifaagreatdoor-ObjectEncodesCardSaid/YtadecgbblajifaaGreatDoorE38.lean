import Derived.Test.YtadecgbblajifaaGreatDoorE37
set_option linter.unusedSimpArgs false
set_option linter.unusedVariables false
set_option maxRecDepth 100000
set_option maxHeartbeats 25600000
namespace Go.Proofs.YtadecgbblajifaaGreatDoor
open Go.RowKit Go.Instr
theorem XF (l:List Tree) (t:Tree):ja (l ++ [t])=max (ja l) (qU t):=by
 induction l with
 |nil=>simp[ja]
 |cons x l ih=>simp only[List.cons_append,ja,ih];omega
theorem Nr (l:List Tree) (j:Nat) (h:j<l.length):ja (l.take (j+1))=max (ja (l.take j)) (qU l[j]):=by
 rw[List.take_succ_eq_append_getElem h,XF]
theorem OC (l:List Tree) (j:Nat) (h:j<l.length):qU l[j]<=ja l:=by
 induction l generalizing j with
 |nil=>simp at h
 |cons t l ih =>
  cases j with
  |zero=>simp only[List.getElem_cons_zero,ja];omega
  |succ j=>have:=ih j (by simpa using h);simp only[List.getElem_cons_succ,ja];omega
theorem Xb (l:List Tree) (j:Nat) (h:j<=l.length):ja (l.take j)<=ja l:=by
 induction j with
 |zero=>simp[ja]
 |succ j ih =>
  rw[Nr l j (by omega)]
  have:=ih (by omega)
  have:=OC l j (by omega)
  omega
set_option maxRecDepth 100000 in
set_option maxHeartbeats 1600000 in
theorem agj:∀ (m:Nat) (x:aa),SizeOf.sizeOf x<=m->qU x.t<=1000000->∀ w:World,fJ w x->Calls Tryz.prog 179 #[x.val] w λe w'=>e = .returned (.int .i64 (qU x.t))/\Grow w w':=by
 intro m
 induction m with
 |zero=>intro x hm;cases x;simp at hm
 |succ m ih =>
  intro x hm hd w hx
  obtain⟨k,n,s,kv,l⟩:=x
  obtain⟨a,cap,rfl,hcap,hlen⟩:=hx.form
  have Ws:=Lib.hid (show qU (aa.mk k n s (.slice a l.length cap) l).t=ja (aa.ts l)+1 from by simp only[aa.t,qU])
  rw[Ws.out]at hd
  have kJ:=Lib.hid (λ(j:Nat) (hj:j<l.length) (w':World) (hg:Grow w w')=>ih l[j] (by have:=xL (k:=k) (n:=n) (s:=s) (kv := .slice a l.length cap) (List.getElem_mem hj);omega) (by
   have:=OC (aa.ts l) j (by rw[aa.kN];exact hj)
   rw[aa.yI l j hj]at this
   omega) w' ((hx.row.2.2.2.2 l[j] (List.getElem_mem hj)).later hg))
  have HX:=Lib.hid hx
  have HD:=Lib.hid hd
  clear ih hm hx hd
  simp only[aa.val]
  have HG:=Lib.hid (show Grow w (w.alloc (.cells #[.int .u8 k,.int .i64 n,.string s,.slice a l.length cap] 26))from(Mv.refl _ _).alloc _)
  go_enter Tryz.func179,Tryz.ntmps179
  go_wp2_with fail
  generalize w.alloc (.cells #[.int .u8 k,.int .i64 n,.string s,.slice a l.length cap] 26)=w1 at *
  go_loopw [3,9] (λdv t wr=>∃ j:Nat,dv = .int .i64 (ja ((aa.ts l).take j))/\t = .int .i64 j/\j<=l.length/\Grow w1 wr) (λ_ t _=>l.length - (intOf t).toNat)
  case atStart=>exact⟨0,by simp[ja],rfl,Nat.zero_le _,Mv.refl _ _⟩
  obtain⟨j,rfl,rfl,hj,hgr⟩:=hrel
  have aU:=Lib.hid hgr
  have aS:=Lib.hid (Mv.trans HG.out hgr (λ_ e=>e.elim))
  clear hgr
  have hdj:=Xb (aa.ts l) j (by rw[aa.kN];exact hj)
  have hd:=HD.out
  by_cases hlt:j<l.length
  · obtain⟨b,off,cap',e,_,hcc⟩:=(HX.out.row.2.2.2.1.later aS.out).at hlt
    simp only[Value.slice.injEq,true_and]at e
    obtain⟨rfl,rfl⟩:=e
    have dN:=HX.out.row.2.2.2.2 l[j] (List.getElem_mem hlt)
    have HI:=Lib.hid (λw' (h:Grow wr w')=>kJ.out j hlt w' (Mv.trans aS.out h (λ_ e=>e.elim)))
    have Wu:=Lib.hid (by have:=Nr (aa.ts l) j (by rw[aa.kN];exact hlt);rw[aa.yI l j hlt]at this;exact this)
    generalize l[j]=y at HI Wu dN hcc
    obtain⟨yk,yn,ys,uR,yl⟩:=y
    obtain⟨ya,yc,rfl,-,-⟩:=dN.form
    simp only[aa.val]at HI
    have c0:=hcc 0 _ rfl
    have c1:=hcc 1 _ rfl
    have c2:=hcc 2 _ rfl
    have c3:=hcc 3 _ rfl
    simp only[Nat.add_zero]at c0
    have hbl:b<wr.heap.size:=World.block_lt_of_cell? wr _ c0
    have HC:=Lib.hid (HI.out (wr.alloc (.cells #[.int .u8 yk,.int .i64 yn,.string ys,.slice ya yl.length yc] 26)) ((Mv.refl _ _).alloc _))
    have aK:=Lib.hid (aU.out.alloc (.cells #[.int .u8 yk,.int .i64 yn,.string ys,.slice ya yl.length yc] 26))
    generalize qU (aa.mk yk yn ys (.slice ya yl.length yc) yl).t=dy at *
    generalize ja ((aa.ts l).take j)=dj at *
    clear hcc dN
    go_wp2_with fail
    refine HC.out.mono ?_
    rintro e w5 ⟨rfl,hg5⟩
    have jB:=Lib.hid (Mv.trans aK.out hg5 (λ_ e=>e.elim))
    clear hg5
    go_wp2_with fail
    go_roundw
    case rel=>exact⟨j+1,by rw[Wu.out];congr 1;omega,by go_num,by omega,jB.out⟩
    case measure=>simp[intOf];omega
  obtain rfl:j=l.length:=by omega
  have uN:=Lib.hid (show(aa.ts l).take l.length=aa.ts l from List.take_of_length_le (by rw[aa.kN];exact Nat.le_refl _))
  rw[uN.out]at hdj ⊢
  generalize ja (aa.ts l)=dd at *
  go_wp2_with fail
  go_ret
  exact⟨fC (by rw[Ws.out];omega),aS.out⟩
mutual
def aR (f:fe):Tree->Bool
 |.mk k _ s l =>
  if k=2 then(aD f s 1).isSome && jl f l
  else if k=3 then(aD f s 2).isSome && jl f l
  else if k=4\/k=5 then(aD f s 3).isSome && jl f l
  else jl f l
def jl (f:fe):List Tree->Bool
 | []=>true
 |t :: l=>aR f t && jl f l
end
theorem oZ (f:fe) (l:List Tree):jl f l=l.all (aR f):=by
 induction l with
 |nil=>rw[jl];rfl
 |cons t l ih=>rw[jl,ih];rfl
set_option maxRecDepth 100000 in
set_option maxHeartbeats 3200000 in
theorem aga (sv:Value) (f:fe):∀ (m:Nat) (x:aa),SizeOf.sizeOf x<=m->∀ w:World,mE w sv f->fJ w x ->
 Calls Tryz.prog 241 #[x.val,.agg #[sv,.int .i64 f.cells,.int .i64 f.stacks]] w (jG w (aR f x.t)):=by
 intro m
 induction m with
 |zero=>intro x hm;cases x;simp at hm
 |succ m ih =>
  intro x hm w hf hx
  obtain⟨k,n,s,kv,l⟩:=x
  obtain⟨a,cap,rfl,hcap,hlen⟩:=hx.form
  obtain⟨fa,fc,rfl,hfc,hfl⟩:=hf.row.form
  have kJ:=Lib.hid (λ(y:aa) (hy:y∈l) (w':World) (hg:Grow w w')=>ih y (by have:=xL (k:=k) (n:=n) (s:=s) (kv := .slice a l.length cap) hy;omega) w' (hf.later hg) ((hx.row.2.2.2.2 y hy).later hg))
  have HF:=Lib.hid hf
  have HX:=Lib.hid hx
  clear ih hm hf hx
  simp only[aa.val,aa.t]
  by_cases h2:k=2
  · subst h2
    have hg1:Grow w ((w.alloc (.cells #[.int .u8 2,.int .i64 n,.string s,.slice a l.length cap] 26)).alloc (.cells #[.slice fa f.slots.length fc,.int .i64 f.cells,.int .i64 f.stacks] 33)):=((Mv.refl _ _).alloc _).alloc _
    have hN:=dG (heap_alloc_new w (.cells #[.int .u8 2,.int .i64 n,.string s,.slice a l.length cap] 26)) (.cells #[.slice fa f.slots.length fc,.int .i64 f.cells,.int .i64 f.stacks] 33)
    have hU:=heap_alloc_new (w.alloc (.cells #[.int .u8 2,.int .i64 n,.string s,.slice a l.length cap] 26)) (.cells #[.slice fa f.slots.length fc,.int .i64 f.cells,.int .i64 f.stacks] 33)
    rw[World.size_alloc]at hU
    have aP:=Lib.hid hg1
    have HU:=Lib.hid hU
    have HN:=Lib.hid hN
    clear hg1 hU hN
    have iK:=Lib.hid (rW (.slice fa f.slots.length fc) f s 1 ((w.alloc (.cells #[.int .u8 2,.int .i64 n,.string s,.slice a l.length cap] 26)).alloc (.cells #[.slice fa f.slots.length fc,.int .i64 f.cells,.int .i64 f.stacks] 33)) (HF.out.later aP.out))
    have dS:=Lib.hid (show(aD f s 1).isSome=true->aR f (.mk 2 n s (aa.ts l))=jl f (aa.ts l)from λh=>by simp[aR,h])
    have nH:=Lib.hid (show(aD f s 1).isSome=false->aR f (.mk 2 n s (aa.ts l))=false from λh=>by simp[aR,h])
    go_enter Tryz.func241,Tryz.ntmps241
    go_wp2_with fail
    generalize ((w.alloc (.cells #[.int .u8 2,.int .i64 n,.string s,.slice a l.length cap] 26)).alloc (.cells #[.slice fa f.slots.length fc,.int .i64 f.cells,.int .i64 f.stacks] 33))=w1 at *
    refine iK.out.mono ?_
    rintro e w2 ⟨rfl,hg2⟩
    have iq:=Lib.hid (Mv.trans aP.out hg2 (λ_ e=>e.elim))
    have mf:=Lib.hid (aJ HU.out hg2)
    have gz:=aJ HN.out hg2
    obtain⟨⟨n0,n1⟩,n2,n3⟩:=fE gz
    have hln:=lt_of_block gz
    generalize (aD f s 1).isSome=pb at *
    generalize (aD f s 1).getD noSlot=sl at *
    clear hg2 gz iK
    cases pb with
    |false =>
     have HR:=Lib.hid (nH.out rfl)
     go_wp2_with fail
     go_ret
     exact⟨ax HR.out.symm,iq.out⟩
    |true =>
    have kZ:=Lib.hid (dS.out rfl)
    clear dS
    have dS:=kZ
    clear kZ
    go_wp2_with fail
    clear n0 n1 n2 n3 hln
    go_loopw [43] (λt wr=>∃ j:Nat,t = .int .i64 j/\j<=l.length/\(∀ i (h1:i<l.length),i<j->aR f l[i].t=true)/\Grow w2 wr) (λt _=>l.length - (intOf t).toNat)
    case atStart=>exact⟨0,rfl,Nat.zero_le _,λi _ h=>by omega,Mv.refl _ _⟩
    obtain⟨j,rfl,hj,hall,hgr⟩:=hrel
    have ek:=Lib.hid hall
    have aU:=Lib.hid hgr
    have aS:=Lib.hid (Mv.trans iq.out hgr (λ_ e=>e.elim))
    have dF:=aJ mf.out hgr
    have u0:wr.cell? ⟨w.heap.size+1,0,none⟩=some (.slice fa f.slots.length fc):=by simp[World.cell?,dF]
    have u1:wr.cell? ⟨w.heap.size+1,1,none⟩=some (.int .i64 f.cells):=by simp[World.cell?,dF]
    have u2:wr.cell? ⟨w.heap.size+1,2,none⟩=some (.int .i64 f.stacks):=by simp[World.cell?,dF]
    have zV:=lt_of_block dF
    clear hall hgr dF
    by_cases hlt:j<l.length
    · obtain⟨b,off,cap',e,_,hcc⟩:=(HX.out.row.2.2.2.1.later aS.out).at hlt
      simp only[Value.slice.injEq,true_and]at e
      obtain⟨rfl,rfl⟩:=e
      have dN:=HX.out.row.2.2.2.2 l[j] (List.getElem_mem hlt)
      have HI:=Lib.hid (λw' (h:Grow wr w')=>kJ.out l[j] (List.getElem_mem hlt) w' (Mv.trans aS.out h (λ_ e=>e.elim)))
      have HST:=Lib.hid (show(aR f l[j].t=true->∀ i (h1:i<l.length),i<j+1->aR f l[i].t=true)from λh i h1 hij=>by
       rcases Nat.lt_or_ge i j with h3|h3
       · exact ek.out i h1 h3
       · obtain rfl:i=j:=by omega
         exact h)
      have dX:=Lib.hid (show(aR f l[j].t=false->jl f (aa.ts l)=false)from λh=>by
       rw[oZ]
       exact List.all_eq_false.2 ⟨l[j].t,by rw[aa.jd];exact List.mem_map.2 ⟨l[j],List.getElem_mem hlt,rfl⟩,by rw[h];simp⟩)
      generalize l[j]=y at HST dX HI dN hcc
      obtain⟨yk,yn,ys,uR,yl⟩:=y
      obtain⟨ya,yc,rfl,-,-⟩:=dN.form
      simp only[aa.val]at HI
      have c0:=hcc 0 _ rfl
      have c1:=hcc 1 _ rfl
      have c2:=hcc 2 _ rfl
      have c3:=hcc 3 _ rfl
      simp only[Nat.add_zero]at c0
      have hbl:b<wr.heap.size:=World.block_lt_of_cell? wr _ c0
      have aK:=Lib.hid (aU.out.alloc (.cells #[.int .u8 yk,.int .i64 yn,.string ys,.slice ya yl.length yc] 26))
      have mg:=Lib.hid (aS.out.alloc (.cells #[.int .u8 yk,.int .i64 yn,.string ys,.slice ya yl.length yc] 26))
      have HC:=Lib.hid (HI.out (wr.alloc (.cells #[.int .u8 yk,.int .i64 yn,.string ys,.slice ya yl.length yc] 26)) ((Mv.refl _ _).alloc _))
      generalize aR f (aa.mk yk yn ys (.slice ya yl.length yc) yl).t=bv at *
      clear hcc dN
      go_wp2_with fail
      refine HC.out.mono ?_
      rintro e w5 ⟨rfl,hg5⟩
      have jB:=Lib.hid (Mv.trans aK.out hg5 (λ_ e=>e.elim))
      have jh:=Lib.hid (Mv.trans mg.out hg5 (λ_ e=>e.elim))
      clear hg5
      cases bv with
      |true =>
       have dU:=Lib.hid (HST.out rfl)
       go_wp2_with fail
       go_roundw
       case rel=>exact⟨j+1,by go_num,by omega,dU.out,jB.out⟩
       case measure=>simp[intOf];omega
      |false =>
       have HR:=Lib.hid (show aR f (.mk 2 n s (aa.ts l))=false from by rw[dS.out,dX.out rfl])
       go_wp2_with fail
       go_ret
       exact⟨ax HR.out.symm,jh.out⟩
    obtain rfl:j=l.length:=by omega
    have HR:=Lib.hid (show aR f (.mk 2 n s (aa.ts l))=true from by
     rw[dS.out,oZ]
     refine List.all_eq_true.2 λt ht => ?_
     rw[aa.jd]at ht
     obtain⟨x,hx,rfl⟩:=List.mem_map.1 ht
     obtain⟨i,hi,rfl⟩:=List.mem_iff_getElem.1 hx
     exact ek.out i hi hi)
    go_wp2_with fail
    go_ret
    exact⟨ax HR.out.symm,aS.out⟩
  by_cases h3:k=3
  · subst h3
    have hg1:Grow w ((w.alloc (.cells #[.int .u8 3,.int .i64 n,.string s,.slice a l.length cap] 26)).alloc (.cells #[.slice fa f.slots.length fc,.int .i64 f.cells,.int .i64 f.stacks] 33)):=((Mv.refl _ _).alloc _).alloc _
    have hN:=dG (heap_alloc_new w (.cells #[.int .u8 3,.int .i64 n,.string s,.slice a l.length cap] 26)) (.cells #[.slice fa f.slots.length fc,.int .i64 f.cells,.int .i64 f.stacks] 33)
    have hU:=heap_alloc_new (w.alloc (.cells #[.int .u8 3,.int .i64 n,.string s,.slice a l.length cap] 26)) (.cells #[.slice fa f.slots.length fc,.int .i64 f.cells,.int .i64 f.stacks] 33)
    rw[World.size_alloc]at hU
    have aP:=Lib.hid hg1
    have HU:=Lib.hid hU
    have HN:=Lib.hid hN
    clear hg1 hU hN
    have iK:=Lib.hid (rW (.slice fa f.slots.length fc) f s 2 ((w.alloc (.cells #[.int .u8 3,.int .i64 n,.string s,.slice a l.length cap] 26)).alloc (.cells #[.slice fa f.slots.length fc,.int .i64 f.cells,.int .i64 f.stacks] 33)) (HF.out.later aP.out))
    have dS:=Lib.hid (show(aD f s 2).isSome=true->aR f (.mk 3 n s (aa.ts l))=jl f (aa.ts l)from λh=>by simp[aR,h])
    have nH:=Lib.hid (show(aD f s 2).isSome=false->aR f (.mk 3 n s (aa.ts l))=false from λh=>by simp[aR,h])
    go_enter Tryz.func241,Tryz.ntmps241
    go_wp2_with fail
    generalize ((w.alloc (.cells #[.int .u8 3,.int .i64 n,.string s,.slice a l.length cap] 26)).alloc (.cells #[.slice fa f.slots.length fc,.int .i64 f.cells,.int .i64 f.stacks] 33))=w1 at *
    refine iK.out.mono ?_
    rintro e w2 ⟨rfl,hg2⟩
    have iq:=Lib.hid (Mv.trans aP.out hg2 (λ_ e=>e.elim))
    have mf:=Lib.hid (aJ HU.out hg2)
    have gz:=aJ HN.out hg2
    obtain⟨⟨n0,n1⟩,n2,n3⟩:=fE gz
    have hln:=lt_of_block gz
    generalize (aD f s 2).isSome=pb at *
    generalize (aD f s 2).getD noSlot=sl at *
    clear hg2 gz iK
    cases pb with
    |false =>
     have HR:=Lib.hid (nH.out rfl)
     go_wp2_with fail
     go_ret
     exact⟨ax HR.out.symm,iq.out⟩
    |true =>
    have kZ:=Lib.hid (dS.out rfl)
    clear dS
    have dS:=kZ
    clear kZ
    go_wp2_with fail
    clear n0 n1 n2 n3 hln
    go_loopw [43] (λt wr=>∃ j:Nat,t = .int .i64 j/\j<=l.length/\(∀ i (h1:i<l.length),i<j->aR f l[i].t=true)/\Grow w2 wr) (λt _=>l.length - (intOf t).toNat)
    case atStart=>exact⟨0,rfl,Nat.zero_le _,λi _ h=>by omega,Mv.refl _ _⟩
    obtain⟨j,rfl,hj,hall,hgr⟩:=hrel
    have ek:=Lib.hid hall
    have aU:=Lib.hid hgr
    have aS:=Lib.hid (Mv.trans iq.out hgr (λ_ e=>e.elim))
    have dF:=aJ mf.out hgr
    have u0:wr.cell? ⟨w.heap.size+1,0,none⟩=some (.slice fa f.slots.length fc):=by simp[World.cell?,dF]
    have u1:wr.cell? ⟨w.heap.size+1,1,none⟩=some (.int .i64 f.cells):=by simp[World.cell?,dF]
    have u2:wr.cell? ⟨w.heap.size+1,2,none⟩=some (.int .i64 f.stacks):=by simp[World.cell?,dF]
    have zV:=lt_of_block dF
    clear hall hgr dF
    by_cases hlt:j<l.length
    · obtain⟨b,off,cap',e,_,hcc⟩:=(HX.out.row.2.2.2.1.later aS.out).at hlt
      simp only[Value.slice.injEq,true_and]at e
      obtain⟨rfl,rfl⟩:=e
      have dN:=HX.out.row.2.2.2.2 l[j] (List.getElem_mem hlt)
      have HI:=Lib.hid (λw' (h:Grow wr w')=>kJ.out l[j] (List.getElem_mem hlt) w' (Mv.trans aS.out h (λ_ e=>e.elim)))
      have HST:=Lib.hid (show(aR f l[j].t=true->∀ i (h1:i<l.length),i<j+1->aR f l[i].t=true)from λh i h1 hij=>by
       rcases Nat.lt_or_ge i j with h3|h3
       · exact ek.out i h1 h3
       · obtain rfl:i=j:=by omega
         exact h)
      have dX:=Lib.hid (show(aR f l[j].t=false->jl f (aa.ts l)=false)from λh=>by
       rw[oZ]
       exact List.all_eq_false.2 ⟨l[j].t,by rw[aa.jd];exact List.mem_map.2 ⟨l[j],List.getElem_mem hlt,rfl⟩,by rw[h];simp⟩)
      generalize l[j]=y at HST dX HI dN hcc
      obtain⟨yk,yn,ys,uR,yl⟩:=y
      obtain⟨ya,yc,rfl,-,-⟩:=dN.form
      simp only[aa.val]at HI
      have c0:=hcc 0 _ rfl
      have c1:=hcc 1 _ rfl
      have c2:=hcc 2 _ rfl
      have c3:=hcc 3 _ rfl
      simp only[Nat.add_zero]at c0
      have hbl:b<wr.heap.size:=World.block_lt_of_cell? wr _ c0
      have aK:=Lib.hid (aU.out.alloc (.cells #[.int .u8 yk,.int .i64 yn,.string ys,.slice ya yl.length yc] 26))
      have mg:=Lib.hid (aS.out.alloc (.cells #[.int .u8 yk,.int .i64 yn,.string ys,.slice ya yl.length yc] 26))
      have HC:=Lib.hid (HI.out (wr.alloc (.cells #[.int .u8 yk,.int .i64 yn,.string ys,.slice ya yl.length yc] 26)) ((Mv.refl _ _).alloc _))
      generalize aR f (aa.mk yk yn ys (.slice ya yl.length yc) yl).t=bv at *
      clear hcc dN
      go_wp2_with fail
      refine HC.out.mono ?_
      rintro e w5 ⟨rfl,hg5⟩
      have jB:=Lib.hid (Mv.trans aK.out hg5 (λ_ e=>e.elim))
      have jh:=Lib.hid (Mv.trans mg.out hg5 (λ_ e=>e.elim))
      clear hg5
      cases bv with
      |true =>
       have dU:=Lib.hid (HST.out rfl)
       go_wp2_with fail
       go_roundw
       case rel=>exact⟨j+1,by go_num,by omega,dU.out,jB.out⟩
       case measure=>simp[intOf];omega
      |false =>
       have HR:=Lib.hid (show aR f (.mk 3 n s (aa.ts l))=false from by rw[dS.out,dX.out rfl])
       go_wp2_with fail
       go_ret
       exact⟨ax HR.out.symm,jh.out⟩
    obtain rfl:j=l.length:=by omega
    have HR:=Lib.hid (show aR f (.mk 3 n s (aa.ts l))=true from by
     rw[dS.out,oZ]
     refine List.all_eq_true.2 λt ht => ?_
     rw[aa.jd]at ht
     obtain⟨x,hx,rfl⟩:=List.mem_map.1 ht
     obtain⟨i,hi,rfl⟩:=List.mem_iff_getElem.1 hx
     exact ek.out i hi hi)
    go_wp2_with fail
    go_ret
    exact⟨ax HR.out.symm,aS.out⟩
  by_cases h4:k=4
  · subst h4
    have hg1:Grow w ((w.alloc (.cells #[.int .u8 4,.int .i64 n,.string s,.slice a l.length cap] 26)).alloc (.cells #[.slice fa f.slots.length fc,.int .i64 f.cells,.int .i64 f.stacks] 33)):=((Mv.refl _ _).alloc _).alloc _
    have hN:=dG (heap_alloc_new w (.cells #[.int .u8 4,.int .i64 n,.string s,.slice a l.length cap] 26)) (.cells #[.slice fa f.slots.length fc,.int .i64 f.cells,.int .i64 f.stacks] 33)
    have hU:=heap_alloc_new (w.alloc (.cells #[.int .u8 4,.int .i64 n,.string s,.slice a l.length cap] 26)) (.cells #[.slice fa f.slots.length fc,.int .i64 f.cells,.int .i64 f.stacks] 33)
    rw[World.size_alloc]at hU
    have aP:=Lib.hid hg1
    have HU:=Lib.hid hU
    have HN:=Lib.hid hN
    clear hg1 hU hN
    have iK:=Lib.hid (rW (.slice fa f.slots.length fc) f s 3 ((w.alloc (.cells #[.int .u8 4,.int .i64 n,.string s,.slice a l.length cap] 26)).alloc (.cells #[.slice fa f.slots.length fc,.int .i64 f.cells,.int .i64 f.stacks] 33)) (HF.out.later aP.out))
    have dS:=Lib.hid (show(aD f s 3).isSome=true->aR f (.mk 4 n s (aa.ts l))=jl f (aa.ts l)from λh=>by simp[aR,h])
    have nH:=Lib.hid (show(aD f s 3).isSome=false->aR f (.mk 4 n s (aa.ts l))=false from λh=>by simp[aR,h])
    go_enter Tryz.func241,Tryz.ntmps241
    go_wp2_with fail
    generalize ((w.alloc (.cells #[.int .u8 4,.int .i64 n,.string s,.slice a l.length cap] 26)).alloc (.cells #[.slice fa f.slots.length fc,.int .i64 f.cells,.int .i64 f.stacks] 33))=w1 at *
    refine iK.out.mono ?_
    rintro e w2 ⟨rfl,hg2⟩
    have iq:=Lib.hid (Mv.trans aP.out hg2 (λ_ e=>e.elim))
    have mf:=Lib.hid (aJ HU.out hg2)
    have gz:=aJ HN.out hg2
    obtain⟨⟨n0,n1⟩,n2,n3⟩:=fE gz
    have hln:=lt_of_block gz
    generalize (aD f s 3).isSome=pb at *
    generalize (aD f s 3).getD noSlot=sl at *
    clear hg2 gz iK
    cases pb with
    |false =>
     have HR:=Lib.hid (nH.out rfl)
     go_wp2_with fail
     go_ret
     exact⟨ax HR.out.symm,iq.out⟩
    |true =>
    have kZ:=Lib.hid (dS.out rfl)
    clear dS
    have dS:=kZ
    clear kZ
    go_wp2_with fail
    clear n0 n1 n2 n3 hln
    go_loopw [43] (λt wr=>∃ j:Nat,t = .int .i64 j/\j<=l.length/\(∀ i (h1:i<l.length),i<j->aR f l[i].t=true)/\Grow w2 wr) (λt _=>l.length - (intOf t).toNat)
    case atStart=>exact⟨0,rfl,Nat.zero_le _,λi _ h=>by omega,Mv.refl _ _⟩
    obtain⟨j,rfl,hj,hall,hgr⟩:=hrel
    have ek:=Lib.hid hall
    have aU:=Lib.hid hgr
    have aS:=Lib.hid (Mv.trans iq.out hgr (λ_ e=>e.elim))
    have dF:=aJ mf.out hgr
    have u0:wr.cell? ⟨w.heap.size+1,0,none⟩=some (.slice fa f.slots.length fc):=by simp[World.cell?,dF]
    have u1:wr.cell? ⟨w.heap.size+1,1,none⟩=some (.int .i64 f.cells):=by simp[World.cell?,dF]
    have u2:wr.cell? ⟨w.heap.size+1,2,none⟩=some (.int .i64 f.stacks):=by simp[World.cell?,dF]
    have zV:=lt_of_block dF
    clear hall hgr dF
    by_cases hlt:j<l.length
    · obtain⟨b,off,cap',e,_,hcc⟩:=(HX.out.row.2.2.2.1.later aS.out).at hlt
      simp only[Value.slice.injEq,true_and]at e
      obtain⟨rfl,rfl⟩:=e
      have dN:=HX.out.row.2.2.2.2 l[j] (List.getElem_mem hlt)
      have HI:=Lib.hid (λw' (h:Grow wr w')=>kJ.out l[j] (List.getElem_mem hlt) w' (Mv.trans aS.out h (λ_ e=>e.elim)))
      have HST:=Lib.hid (show(aR f l[j].t=true->∀ i (h1:i<l.length),i<j+1->aR f l[i].t=true)from λh i h1 hij=>by
       rcases Nat.lt_or_ge i j with h3|h3
       · exact ek.out i h1 h3
       · obtain rfl:i=j:=by omega
         exact h)
      have dX:=Lib.hid (show(aR f l[j].t=false->jl f (aa.ts l)=false)from λh=>by
       rw[oZ]
       exact List.all_eq_false.2 ⟨l[j].t,by rw[aa.jd];exact List.mem_map.2 ⟨l[j],List.getElem_mem hlt,rfl⟩,by rw[h];simp⟩)
      generalize l[j]=y at HST dX HI dN hcc
      obtain⟨yk,yn,ys,uR,yl⟩:=y
      obtain⟨ya,yc,rfl,-,-⟩:=dN.form
      simp only[aa.val]at HI
      have c0:=hcc 0 _ rfl
      have c1:=hcc 1 _ rfl
      have c2:=hcc 2 _ rfl
      have c3:=hcc 3 _ rfl
      simp only[Nat.add_zero]at c0
      have hbl:b<wr.heap.size:=World.block_lt_of_cell? wr _ c0
      have aK:=Lib.hid (aU.out.alloc (.cells #[.int .u8 yk,.int .i64 yn,.string ys,.slice ya yl.length yc] 26))
      have mg:=Lib.hid (aS.out.alloc (.cells #[.int .u8 yk,.int .i64 yn,.string ys,.slice ya yl.length yc] 26))
      have HC:=Lib.hid (HI.out (wr.alloc (.cells #[.int .u8 yk,.int .i64 yn,.string ys,.slice ya yl.length yc] 26)) ((Mv.refl _ _).alloc _))
      generalize aR f (aa.mk yk yn ys (.slice ya yl.length yc) yl).t=bv at *
      clear hcc dN
      go_wp2_with fail
      refine HC.out.mono ?_
      rintro e w5 ⟨rfl,hg5⟩
      have jB:=Lib.hid (Mv.trans aK.out hg5 (λ_ e=>e.elim))
      have jh:=Lib.hid (Mv.trans mg.out hg5 (λ_ e=>e.elim))
      clear hg5
      cases bv with
      |true =>
       have dU:=Lib.hid (HST.out rfl)
       go_wp2_with fail
       go_roundw
       case rel=>exact⟨j+1,by go_num,by omega,dU.out,jB.out⟩
       case measure=>simp[intOf];omega
      |false =>
       have HR:=Lib.hid (show aR f (.mk 4 n s (aa.ts l))=false from by rw[dS.out,dX.out rfl])
       go_wp2_with fail
       go_ret
       exact⟨ax HR.out.symm,jh.out⟩
    obtain rfl:j=l.length:=by omega
    have HR:=Lib.hid (show aR f (.mk 4 n s (aa.ts l))=true from by
     rw[dS.out,oZ]
     refine List.all_eq_true.2 λt ht => ?_
     rw[aa.jd]at ht
     obtain⟨x,hx,rfl⟩:=List.mem_map.1 ht
     obtain⟨i,hi,rfl⟩:=List.mem_iff_getElem.1 hx
     exact ek.out i hi hi)
    go_wp2_with fail
    go_ret
    exact⟨ax HR.out.symm,aS.out⟩
  by_cases h5:k=5
  · subst h5
    have hg1:Grow w ((w.alloc (.cells #[.int .u8 5,.int .i64 n,.string s,.slice a l.length cap] 26)).alloc (.cells #[.slice fa f.slots.length fc,.int .i64 f.cells,.int .i64 f.stacks] 33)):=((Mv.refl _ _).alloc _).alloc _
    have hN:=dG (heap_alloc_new w (.cells #[.int .u8 5,.int .i64 n,.string s,.slice a l.length cap] 26)) (.cells #[.slice fa f.slots.length fc,.int .i64 f.cells,.int .i64 f.stacks] 33)
    have hU:=heap_alloc_new (w.alloc (.cells #[.int .u8 5,.int .i64 n,.string s,.slice a l.length cap] 26)) (.cells #[.slice fa f.slots.length fc,.int .i64 f.cells,.int .i64 f.stacks] 33)
    rw[World.size_alloc]at hU
    have aP:=Lib.hid hg1
    have HU:=Lib.hid hU
    have HN:=Lib.hid hN
    clear hg1 hU hN
    have iK:=Lib.hid (rW (.slice fa f.slots.length fc) f s 3 ((w.alloc (.cells #[.int .u8 5,.int .i64 n,.string s,.slice a l.length cap] 26)).alloc (.cells #[.slice fa f.slots.length fc,.int .i64 f.cells,.int .i64 f.stacks] 33)) (HF.out.later aP.out))
    have dS:=Lib.hid (show(aD f s 3).isSome=true->aR f (.mk 5 n s (aa.ts l))=jl f (aa.ts l)from λh=>by simp[aR,h])
    have nH:=Lib.hid (show(aD f s 3).isSome=false->aR f (.mk 5 n s (aa.ts l))=false from λh=>by simp[aR,h])
    go_enter Tryz.func241,Tryz.ntmps241
    go_wp2_with fail
    generalize ((w.alloc (.cells #[.int .u8 5,.int .i64 n,.string s,.slice a l.length cap] 26)).alloc (.cells #[.slice fa f.slots.length fc,.int .i64 f.cells,.int .i64 f.stacks] 33))=w1 at *
    refine iK.out.mono ?_
    rintro e w2 ⟨rfl,hg2⟩
    have iq:=Lib.hid (Mv.trans aP.out hg2 (λ_ e=>e.elim))
    have mf:=Lib.hid (aJ HU.out hg2)
    have gz:=aJ HN.out hg2
    obtain⟨⟨n0,n1⟩,n2,n3⟩:=fE gz
    have hln:=lt_of_block gz
    generalize (aD f s 3).isSome=pb at *
    generalize (aD f s 3).getD noSlot=sl at *
    clear hg2 gz iK
    cases pb with
    |false =>
     have HR:=Lib.hid (nH.out rfl)
     go_wp2_with fail
     go_ret
     exact⟨ax HR.out.symm,iq.out⟩
    |true =>
    have kZ:=Lib.hid (dS.out rfl)
    clear dS
    have dS:=kZ
    clear kZ
    go_wp2_with fail
    clear n0 n1 n2 n3 hln
    go_loopw [43] (λt wr=>∃ j:Nat,t = .int .i64 j/\j<=l.length/\(∀ i (h1:i<l.length),i<j->aR f l[i].t=true)/\Grow w2 wr) (λt _=>l.length - (intOf t).toNat)
    case atStart=>exact⟨0,rfl,Nat.zero_le _,λi _ h=>by omega,Mv.refl _ _⟩
    obtain⟨j,rfl,hj,hall,hgr⟩:=hrel
    have ek:=Lib.hid hall
    have aU:=Lib.hid hgr
    have aS:=Lib.hid (Mv.trans iq.out hgr (λ_ e=>e.elim))
    have dF:=aJ mf.out hgr
    have u0:wr.cell? ⟨w.heap.size+1,0,none⟩=some (.slice fa f.slots.length fc):=by simp[World.cell?,dF]
    have u1:wr.cell? ⟨w.heap.size+1,1,none⟩=some (.int .i64 f.cells):=by simp[World.cell?,dF]
    have u2:wr.cell? ⟨w.heap.size+1,2,none⟩=some (.int .i64 f.stacks):=by simp[World.cell?,dF]
    have zV:=lt_of_block dF
    clear hall hgr dF
    by_cases hlt:j<l.length
    · obtain⟨b,off,cap',e,_,hcc⟩:=(HX.out.row.2.2.2.1.later aS.out).at hlt
      simp only[Value.slice.injEq,true_and]at e
      obtain⟨rfl,rfl⟩:=e
      have dN:=HX.out.row.2.2.2.2 l[j] (List.getElem_mem hlt)
      have HI:=Lib.hid (λw' (h:Grow wr w')=>kJ.out l[j] (List.getElem_mem hlt) w' (Mv.trans aS.out h (λ_ e=>e.elim)))
      have HST:=Lib.hid (show(aR f l[j].t=true->∀ i (h1:i<l.length),i<j+1->aR f l[i].t=true)from λh i h1 hij=>by
       rcases Nat.lt_or_ge i j with h3|h3
       · exact ek.out i h1 h3
       · obtain rfl:i=j:=by omega
         exact h)
      have dX:=Lib.hid (show(aR f l[j].t=false->jl f (aa.ts l)=false)from λh=>by
       rw[oZ]
       exact List.all_eq_false.2 ⟨l[j].t,by rw[aa.jd];exact List.mem_map.2 ⟨l[j],List.getElem_mem hlt,rfl⟩,by rw[h];simp⟩)
      generalize l[j]=y at HST dX HI dN hcc
      obtain⟨yk,yn,ys,uR,yl⟩:=y
      obtain⟨ya,yc,rfl,-,-⟩:=dN.form
      simp only[aa.val]at HI
      have c0:=hcc 0 _ rfl
      have c1:=hcc 1 _ rfl
      have c2:=hcc 2 _ rfl
      have c3:=hcc 3 _ rfl
      simp only[Nat.add_zero]at c0
      have hbl:b<wr.heap.size:=World.block_lt_of_cell? wr _ c0
      have aK:=Lib.hid (aU.out.alloc (.cells #[.int .u8 yk,.int .i64 yn,.string ys,.slice ya yl.length yc] 26))
      have mg:=Lib.hid (aS.out.alloc (.cells #[.int .u8 yk,.int .i64 yn,.string ys,.slice ya yl.length yc] 26))
      have HC:=Lib.hid (HI.out (wr.alloc (.cells #[.int .u8 yk,.int .i64 yn,.string ys,.slice ya yl.length yc] 26)) ((Mv.refl _ _).alloc _))
      generalize aR f (aa.mk yk yn ys (.slice ya yl.length yc) yl).t=bv at *
      clear hcc dN
      go_wp2_with fail
      refine HC.out.mono ?_
      rintro e w5 ⟨rfl,hg5⟩
      have jB:=Lib.hid (Mv.trans aK.out hg5 (λ_ e=>e.elim))
      have jh:=Lib.hid (Mv.trans mg.out hg5 (λ_ e=>e.elim))
      clear hg5
      cases bv with
      |true =>
       have dU:=Lib.hid (HST.out rfl)
       go_wp2_with fail
       go_roundw
       case rel=>exact⟨j+1,by go_num,by omega,dU.out,jB.out⟩
       case measure=>simp[intOf];omega
      |false =>
       have HR:=Lib.hid (show aR f (.mk 5 n s (aa.ts l))=false from by rw[dS.out,dX.out rfl])
       go_wp2_with fail
       go_ret
       exact⟨ax HR.out.symm,jh.out⟩
    obtain rfl:j=l.length:=by omega
    have HR:=Lib.hid (show aR f (.mk 5 n s (aa.ts l))=true from by
     rw[dS.out,oZ]
     refine List.all_eq_true.2 λt ht => ?_
     rw[aa.jd]at ht
     obtain⟨x,hx,rfl⟩:=List.mem_map.1 ht
     obtain⟨i,hi,rfl⟩:=List.mem_iff_getElem.1 hx
     exact ek.out i hi hi)
    go_wp2_with fail
    go_ret
    exact⟨ax HR.out.symm,aS.out⟩
  have hr2:(k == 2)=false:=by simpa using h2
  have hr3:(k == 3)=false:=by simpa using h3
  have hr4:(k == 4)=false:=by simpa using h4
  have Mk:(k == 5)=false:=by simpa using h5
  have hg1:Grow w ((w.alloc (.cells #[.int .u8 k,.int .i64 n,.string s,.slice a l.length cap] 26)).alloc (.cells #[.slice fa f.slots.length fc,.int .i64 f.cells,.int .i64 f.stacks] 33)):=((Mv.refl _ _).alloc _).alloc _
  have hN:=dG (heap_alloc_new w (.cells #[.int .u8 k,.int .i64 n,.string s,.slice a l.length cap] 26)) (.cells #[.slice fa f.slots.length fc,.int .i64 f.cells,.int .i64 f.stacks] 33)
  have hU:=heap_alloc_new (w.alloc (.cells #[.int .u8 k,.int .i64 n,.string s,.slice a l.length cap] 26)) (.cells #[.slice fa f.slots.length fc,.int .i64 f.cells,.int .i64 f.stacks] 33)
  rw[World.size_alloc]at hU
  have aP:=Lib.hid hg1
  have HU:=Lib.hid hU
  have HN:=Lib.hid hN
  clear hg1 hU hN
  have dS:=Lib.hid (show aR f (.mk k n s (aa.ts l))=jl f (aa.ts l)from by simp[aR,h2,h3,h4,h5])
  have iq:=aP
  have mf:=HU
  obtain⟨⟨n0,n1⟩,n2,n3⟩:=fE HN.out
  have hln:=lt_of_block HN.out
  clear h2 h3 h4 h5
  go_enter Tryz.func241,Tryz.ntmps241
  go_wp2_with fail
  clear n0 n1 n2 n3 hln
  generalize ((w.alloc (.cells #[.int .u8 k,.int .i64 n,.string s,.slice a l.length cap] 26)).alloc (.cells #[.slice fa f.slots.length fc,.int .i64 f.cells,.int .i64 f.stacks] 33))=w1 at *
  go_loopw [43] (λt wr=>∃ j:Nat,t = .int .i64 j/\j<=l.length/\(∀ i (h1:i<l.length),i<j->aR f l[i].t=true)/\Grow w1 wr) (λt _=>l.length - (intOf t).toNat)
  case atStart=>exact⟨0,rfl,Nat.zero_le _,λi _ h=>by omega,Mv.refl _ _⟩
  obtain⟨j,rfl,hj,hall,hgr⟩:=hrel
  have ek:=Lib.hid hall
  have aU:=Lib.hid hgr
  have aS:=Lib.hid (Mv.trans iq.out hgr (λ_ e=>e.elim))
  have dF:=aJ mf.out hgr
  have u0:wr.cell? ⟨w.heap.size+1,0,none⟩=some (.slice fa f.slots.length fc):=by simp[World.cell?,dF]
  have u1:wr.cell? ⟨w.heap.size+1,1,none⟩=some (.int .i64 f.cells):=by simp[World.cell?,dF]
  have u2:wr.cell? ⟨w.heap.size+1,2,none⟩=some (.int .i64 f.stacks):=by simp[World.cell?,dF]
  have zV:=lt_of_block dF
  clear hall hgr dF
  by_cases hlt:j<l.length
  · obtain⟨b,off,cap',e,_,hcc⟩:=(HX.out.row.2.2.2.1.later aS.out).at hlt
    simp only[Value.slice.injEq,true_and]at e
    obtain⟨rfl,rfl⟩:=e
    have dN:=HX.out.row.2.2.2.2 l[j] (List.getElem_mem hlt)
    have HI:=Lib.hid (λw' (h:Grow wr w')=>kJ.out l[j] (List.getElem_mem hlt) w' (Mv.trans aS.out h (λ_ e=>e.elim)))
    have HST:=Lib.hid (show(aR f l[j].t=true->∀ i (h1:i<l.length),i<j+1->aR f l[i].t=true)from λh i h1 hij=>by
     rcases Nat.lt_or_ge i j with h3|h3
     · exact ek.out i h1 h3
     · obtain rfl:i=j:=by omega
       exact h)
    have dX:=Lib.hid (show(aR f l[j].t=false->jl f (aa.ts l)=false)from λh=>by
     rw[oZ]
     exact List.all_eq_false.2 ⟨l[j].t,by rw[aa.jd];exact List.mem_map.2 ⟨l[j],List.getElem_mem hlt,rfl⟩,by rw[h];simp⟩)
    generalize l[j]=y at HST dX HI dN hcc
    obtain⟨yk,yn,ys,uR,yl⟩:=y
    obtain⟨ya,yc,rfl,-,-⟩:=dN.form
    simp only[aa.val]at HI
    have c0:=hcc 0 _ rfl
    have c1:=hcc 1 _ rfl
    have c2:=hcc 2 _ rfl
    have c3:=hcc 3 _ rfl
    simp only[Nat.add_zero]at c0
    have hbl:b<wr.heap.size:=World.block_lt_of_cell? wr _ c0
    have aK:=Lib.hid (aU.out.alloc (.cells #[.int .u8 yk,.int .i64 yn,.string ys,.slice ya yl.length yc] 26))
    have mg:=Lib.hid (aS.out.alloc (.cells #[.int .u8 yk,.int .i64 yn,.string ys,.slice ya yl.length yc] 26))
    have HC:=Lib.hid (HI.out (wr.alloc (.cells #[.int .u8 yk,.int .i64 yn,.string ys,.slice ya yl.length yc] 26)) ((Mv.refl _ _).alloc _))
    generalize aR f (aa.mk yk yn ys (.slice ya yl.length yc) yl).t=bv at *
    clear hcc dN
    go_wp2_with fail
    refine HC.out.mono ?_
    rintro e w5 ⟨rfl,hg5⟩
    have jB:=Lib.hid (Mv.trans aK.out hg5 (λ_ e=>e.elim))
    have jh:=Lib.hid (Mv.trans mg.out hg5 (λ_ e=>e.elim))
    clear hg5
    cases bv with
    |true =>
     have dU:=Lib.hid (HST.out rfl)
     go_wp2_with fail
     go_roundw
     case rel=>exact⟨j+1,by go_num,by omega,dU.out,jB.out⟩
     case measure=>simp[intOf];omega
    |false =>
     have HR:=Lib.hid (show aR f (.mk k n s (aa.ts l))=false from by rw[dS.out,dX.out rfl])
     go_wp2_with fail
     go_ret
     exact⟨ax HR.out.symm,jh.out⟩
  obtain rfl:j=l.length:=by omega
  have HR:=Lib.hid (show aR f (.mk k n s (aa.ts l))=true from by
   rw[dS.out,oZ]
   refine List.all_eq_true.2 λt ht => ?_
   rw[aa.jd]at ht
   obtain⟨x,hx,rfl⟩:=List.mem_map.1 ht
   obtain⟨i,hi,rfl⟩:=List.mem_iff_getElem.1 hx
   exact ek.out i hi hi)
  go_wp2_with fail
  go_ret
  exact⟨ax HR.out.symm,aS.out⟩
end Go.Proofs.YtadecgbblajifaaGreatDoor
