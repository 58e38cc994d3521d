import Derived.Test.YtadecgbblajifaaGreatDoorE36
set_option linter.unusedSimpArgs false
set_option linter.unusedVariables false
set_option maxRecDepth 100000
set_option maxHeartbeats 25600000
namespace Go.Proofs.YtadecgbblajifaaGreatDoor
open Go.RowKit Go.Instr
mutual
def fT (f:fe) (procs:List vX):Tree->Bool
 |.mk k _ s l =>
  if k=2\/k=54 then(aD f s 1).isSome && mr f procs l
  else if k=3 then(aD f s 2).isSome && mr f procs l
  else if k=4\/k=5\/k=44\/k=45\/k=55 then(aD f s 3).isSome && mr f procs l
  else if k=50\/k=51 then qg f procs s l
  else mr f procs l
def mr (f:fe) (procs:List vX):List Tree->Bool
 | []=>true
 |t :: l=>(t.kind == 57 || fT f procs t) && mr f procs l
end
theorem Dn (f:fe) (procs:List vX) (l:List Tree):mr f procs l=l.all λt=>t.kind == 57 || fT f procs t:=by
 induction l with
 |nil=>rw[mr];rfl
 |cons t l ih=>rw[mr,ih];rfl
set_option maxRecDepth 100000 in
set_option maxHeartbeats 6400000 in
theorem agi (sv pv:Value) (f:fe) (procs:List aM):∀ (m:Nat) (x:aa),SizeOf.sizeOf x<=m->∀ w:World,mE w sv f->su w pv procs->fJ w x ->
 Calls Tryz.prog 159 #[.agg #[sv,.int .i64 f.cells,.int .i64 f.stacks,pv],x.val] w (jG w (fT f (procs.map aM.d) x.t)):=by
 intro m
 induction m with
 |zero=>intro x hm;cases x;simp at hm
 |succ m ih =>
  intro x hm w hf hp hx
  obtain⟨k,n,s,kv,l⟩:=x
  obtain⟨a,cap,rfl,hcap,hlen⟩:=hx.form
  obtain⟨fa,fc,rfl,hfc,hfl⟩:=hf.row.form
  obtain⟨ga,gc,rfl,hgc,hgl⟩:=hp.row.form
  have kJ:=Lib.hid (λ(y:aa) (hy:y∈l) (w':World) (hg:Grow w w')=>ih y (by have:=xL (k:=k) (n:=n) (s:=s) (kv := .slice a l.length cap) hy;omega) w' (hf.later hg) (hp.later hg) ((hx.row.2.2.2.2 y hy).later hg))
  have HF:=Lib.hid hf
  have HP:=Lib.hid hp
  have HX:=Lib.hid hx
  clear ih hm hf hp hx
  simp only[aa.val,aa.t]
  by_cases h8:k=2\/k=54\/k=3\/k=4\/k=5\/k=44\/k=45\/k=55
  · obtain⟨q,hq⟩:∃ q:Int,(q=1/\(k=2\/k=54))\/(q=2/\k=3)\/(q=3/\(k=4\/k=5\/k=44\/k=45\/k=55)):=by
     by_cases e1:k=2\/k=54
     · exact⟨1,.inl ⟨rfl,e1⟩⟩
     · by_cases e2:k=3
       · exact⟨2,.inr (.inl ⟨rfl,e2⟩)⟩
       · exact⟨3,.inr (.inr ⟨rfl,by omega⟩)⟩
    clear h8
    have hg1:Grow w ((w.alloc (.cells #[.slice fa f.slots.length fc,.int .i64 f.cells,.int .i64 f.stacks,.slice ga procs.length gc] 141)).alloc (.cells #[.int .u8 k,.int .i64 n,.string s,.slice a l.length cap] 26)):=((Mv.refl _ _).alloc _).alloc _
    have hU:=dG (heap_alloc_new w (.cells #[.slice fa f.slots.length fc,.int .i64 f.cells,.int .i64 f.stacks,.slice ga procs.length gc] 141)) (.cells #[.int .u8 k,.int .i64 n,.string s,.slice a l.length cap] 26)
    have hN:=heap_alloc_new (w.alloc (.cells #[.slice fa f.slots.length fc,.int .i64 f.cells,.int .i64 f.stacks,.slice ga procs.length gc] 141)) (.cells #[.int .u8 k,.int .i64 n,.string s,.slice a l.length cap] 26)
    rw[World.size_alloc]at hN
    have aP:=Lib.hid hg1
    have HU:=Lib.hid hU
    have HN:=Lib.hid hN
    clear hg1 hU hN
    have iK:=Lib.hid (Qz (.slice fa f.slots.length fc) (.slice ga procs.length gc) f s q ((w.alloc (.cells #[.slice fa f.slots.length fc,.int .i64 f.cells,.int .i64 f.stacks,.slice ga procs.length gc] 141)).alloc (.cells #[.int .u8 k,.int .i64 n,.string s,.slice a l.length cap] 26)) (HF.out.later aP.out) ga procs.length gc rfl)
    have dS:=Lib.hid (show(aD f s q).isSome=true->fT f (procs.map aM.d) (.mk k n s (aa.ts l))=mr f (procs.map aM.d) (aa.ts l)from λh=>by rcases hq with⟨rfl,rfl|rfl⟩|⟨rfl,rfl⟩|⟨rfl,rfl|rfl|rfl|rfl|rfl⟩ <;> simp[fT,h])
    have nH:=Lib.hid (show(aD f s q).isSome=false->fT f (procs.map aM.d) (.mk k n s (aa.ts l))=false from λh=>by rcases hq with⟨rfl,rfl|rfl⟩|⟨rfl,rfl⟩|⟨rfl,rfl|rfl|rfl|rfl|rfl⟩ <;> simp[fT,h])
    generalize fT f (procs.map aM.d) (.mk k n s (aa.ts l))=NB at *
    generalize (aD f s q).isSome=pb at *
    obtain⟨w1,hw1⟩:∃ w1:World,w1=((w.alloc (.cells #[.slice fa f.slots.length fc,.int .i64 f.cells,.int .i64 f.stacks,.slice ga procs.length gc] 141)).alloc (.cells #[.int .u8 k,.int .i64 n,.string s,.slice a l.length cap] 26)):=⟨_,rfl⟩
    rw[← hw1]at aP HU HN iK
    have HW:=Lib.hid hw1
    clear hw1
    rcases hq with⟨rfl,rfl|rfl⟩|⟨rfl,rfl⟩|⟨rfl,rfl|rfl|rfl|rfl|rfl⟩
    all_goals
     go_enter Tryz.func159,Tryz.ntmps159
     go_wp2_with fail
     rw[← HW.out]
     refine iK.out.mono ?_
     rintro e w2 ⟨rfl,hg2⟩
     have iq:=Lib.hid (Mv.trans aP.out hg2 (λ_ e=>e.elim))
     have mf:=Lib.hid (aJ HU.out hg2)
     have gz:=aJ HN.out hg2
     obtain⟨⟨n0,n1⟩,n2,n3⟩:=fE gz
     have hln:=lt_of_block gz
     clear hg2 gz iK
     cases pb with
     |false =>
      have HR:=Lib.hid (nH.out rfl)
      go_wp2_with fail
      go_ret
      exact⟨ax HR.out.symm,iq.out⟩
     |true =>
     have kZ:=Lib.hid (dS.out rfl)
     clear dS
     have dS:=kZ
     clear kZ
     go_wp2_with fail
     clear n0 n1 n2 n3 hln
     go_loopw [44] (λt wr=>∃ j:Nat,t = .int .i64 j/\j<=l.length/\(∀ i (h1:i<l.length),i<j->(l[i].t.kind == 57 || fT f (procs.map aM.d) l[i].t)=true)/\Grow w2 wr) (λt _=>l.length - (intOf t).toNat)
     case atStart=>exact⟨0,rfl,Nat.zero_le _,λi _ h=>by omega,Mv.refl _ _⟩
     obtain⟨j,rfl,hj,hall,hgr⟩:=hrel
     have ek:=Lib.hid hall
     have aU:=Lib.hid hgr
     have aS:=Lib.hid (Mv.trans iq.out hgr (λ_ e=>e.elim))
     have dF:=aJ mf.out hgr
     obtain⟨⟨u0,u1⟩,u2,u3⟩:=fE dF
     have zV:=lt_of_block dF
     clear hall hgr dF
     by_cases hlt:j<l.length
     · obtain⟨b,off,cap',e,_,hcc⟩:=(HX.out.row.2.2.2.1.later aS.out).at hlt
       simp only[Value.slice.injEq,true_and]at e
       obtain⟨rfl,rfl⟩:=e
       have dN:=HX.out.row.2.2.2.2 l[j] (List.getElem_mem hlt)
       have HI:=Lib.hid (λw' (h:Grow wr w')=>kJ.out l[j] (List.getElem_mem hlt) w' (Mv.trans aS.out h (λ_ e=>e.elim)))
       have HST:=Lib.hid (show((l[j].t.kind == 57 || fT f (procs.map aM.d) l[j].t)=true->∀ i (h1:i<l.length),i<j+1->(l[i].t.kind == 57 || fT f (procs.map aM.d) l[i].t)=true)from λh i h1 hij=>by
        rcases Nat.lt_or_ge i j with h3|h3
        · exact ek.out i h1 h3
        · obtain rfl:i=j:=by omega
          exact h)
       have dX:=Lib.hid (show((l[j].t.kind == 57 || fT f (procs.map aM.d) l[j].t)=false->mr f (procs.map aM.d) (aa.ts l)=false)from λh=>by
        rw[Dn]
        exact List.all_eq_false.2 ⟨l[j].t,by rw[aa.jd];exact List.mem_map.2 ⟨l[j],List.getElem_mem hlt,rfl⟩,by rw[h];simp⟩)
       generalize l[j]=y at HST dX HI dN hcc
       obtain⟨yk,yn,ys,uR,yl⟩:=y
       obtain⟨ya,yc,rfl,-,-⟩:=dN.form
       simp only[aa.val]at HI
       have c0:=hcc 0 _ rfl
       have c1:=hcc 1 _ rfl
       have c2:=hcc 2 _ rfl
       have c3:=hcc 3 _ rfl
       simp only[Nat.add_zero]at c0
       have hbl:b<wr.heap.size:=World.block_lt_of_cell? wr _ c0
       have aK:=Lib.hid (aU.out.alloc (.cells #[.int .u8 yk,.int .i64 yn,.string ys,.slice ya yl.length yc] 26))
       have mg:=Lib.hid (aS.out.alloc (.cells #[.int .u8 yk,.int .i64 yn,.string ys,.slice ya yl.length yc] 26))
       have HK:=Lib.hid (show(aa.mk yk yn ys (.slice ya yl.length yc) yl).t.kind=yk from by simp[aa.t,Tree.kind])
       rw[HK.out]at HST dX
       by_cases wP:yk=57
       · subst wP
         have dU:=Lib.hid (HST.out (by simp))
         clear hcc dN
         go_wp2_with fail
         go_roundw
         case rel=>exact⟨j+1,by go_num,by omega,dU.out,aK.out⟩
         case measure=>simp[intOf];omega
       · have hkn:(yk != 57)=true:=by simpa using wP
         have hkn2:(yk == 57)=false:=by simpa using wP
         have HC:=Lib.hid (HI.out (wr.alloc (.cells #[.int .u8 yk,.int .i64 yn,.string ys,.slice ya yl.length yc] 26)) ((Mv.refl _ _).alloc _))
         rw[hkn2,Bool.false_or]at HST dX
         generalize fT f (procs.map aM.d) (aa.mk yk yn ys (.slice ya yl.length yc) yl).t=bv at *
         clear hcc dN
         go_wp2_with fail
         refine HC.out.mono ?_
         rintro e w5 ⟨rfl,hg5⟩
         have jB:=Lib.hid (Mv.trans aK.out hg5 (λ_ e=>e.elim))
         have jh:=Lib.hid (Mv.trans mg.out hg5 (λ_ e=>e.elim))
         clear hg5
         cases bv with
         |true =>
          have dU:=Lib.hid (HST.out rfl)
          go_wp2_with fail
          go_roundw
          case rel=>exact⟨j+1,by go_num,by omega,dU.out,jB.out⟩
          case measure=>simp[intOf];omega
         |false =>
          have HR:=Lib.hid (show NB=false from by rw[dS.out,dX.out rfl])
          go_wp2_with fail
          go_ret
          exact⟨ax HR.out.symm,jh.out⟩
     obtain rfl:j=l.length:=by omega
     have HR:=Lib.hid (show NB=true from by
      rw[dS.out,Dn]
      refine List.all_eq_true.2 λt ht => ?_
      rw[aa.jd]at ht
      obtain⟨x,hx,rfl⟩:=List.mem_map.1 ht
      obtain⟨i,hi,rfl⟩:=List.mem_iff_getElem.1 hx
      exact ek.out i hi hi)
     go_wp2_with fail
     go_ret
     exact⟨ax HR.out.symm,aS.out⟩
  have h2:k≠2:=by omega
  have xw:k≠54:=by omega
  have h3:k≠3:=by omega
  have h4:k≠4:=by omega
  have h5:k≠5:=by omega
  have zM:k≠44:=by omega
  have h45:k≠45:=by omega
  have xx:k≠55:=by omega
  clear h8
  by_cases h50:k=50
  · subst h50
    have hg1:Grow w ((w.alloc (.cells #[.slice fa f.slots.length fc,.int .i64 f.cells,.int .i64 f.stacks,.slice ga procs.length gc] 141)).alloc (.cells #[.int .u8 50,.int .i64 n,.string s,.slice a l.length cap] 26)):=((Mv.refl _ _).alloc _).alloc _
    have hU:=dG (heap_alloc_new w (.cells #[.slice fa f.slots.length fc,.int .i64 f.cells,.int .i64 f.stacks,.slice ga procs.length gc] 141)) (.cells #[.int .u8 50,.int .i64 n,.string s,.slice a l.length cap] 26)
    have hN:=heap_alloc_new (w.alloc (.cells #[.slice fa f.slots.length fc,.int .i64 f.cells,.int .i64 f.stacks,.slice ga procs.length gc] 141)) (.cells #[.int .u8 50,.int .i64 n,.string s,.slice a l.length cap] 26)
    rw[World.size_alloc]at hN
    have aP:=Lib.hid hg1
    have HU:=Lib.hid hU
    have HN:=Lib.hid hN
    clear hg1 hU hN
    have iK:=Lib.hid (Ni (.slice fa f.slots.length fc) (.slice ga procs.length gc) f procs 50 n s (.slice a l.length cap) l ((w.alloc (.cells #[.slice fa f.slots.length fc,.int .i64 f.cells,.int .i64 f.stacks,.slice ga procs.length gc] 141)).alloc (.cells #[.int .u8 50,.int .i64 n,.string s,.slice a l.length cap] 26)) (HF.out.later aP.out) (HP.out.later aP.out) (HX.out.later aP.out))
    simp only[aa.val]at iK
    have HR:=Lib.hid (show fT f (procs.map aM.d) (.mk 50 n s (aa.ts l))=qg f (procs.map aM.d) s (aa.ts l)from by simp[fT])
    go_enter Tryz.func159,Tryz.ntmps159
    go_wp2_with fail
    generalize ((w.alloc (.cells #[.slice fa f.slots.length fc,.int .i64 f.cells,.int .i64 f.stacks,.slice ga procs.length gc] 141)).alloc (.cells #[.int .u8 50,.int .i64 n,.string s,.slice a l.length cap] 26))=w1 at *
    refine iK.out.mono ?_
    rintro e w2 ⟨rfl,hg2⟩
    have iq:=Lib.hid (Mv.trans aP.out hg2 (λ_ e=>e.elim))
    clear hg2
    go_wp2_with fail
    go_ret
    exact⟨ax HR.out.symm,iq.out⟩
  by_cases uM:k=51
  · subst uM
    have hg1:Grow w ((w.alloc (.cells #[.slice fa f.slots.length fc,.int .i64 f.cells,.int .i64 f.stacks,.slice ga procs.length gc] 141)).alloc (.cells #[.int .u8 51,.int .i64 n,.string s,.slice a l.length cap] 26)):=((Mv.refl _ _).alloc _).alloc _
    have hU:=dG (heap_alloc_new w (.cells #[.slice fa f.slots.length fc,.int .i64 f.cells,.int .i64 f.stacks,.slice ga procs.length gc] 141)) (.cells #[.int .u8 51,.int .i64 n,.string s,.slice a l.length cap] 26)
    have hN:=heap_alloc_new (w.alloc (.cells #[.slice fa f.slots.length fc,.int .i64 f.cells,.int .i64 f.stacks,.slice ga procs.length gc] 141)) (.cells #[.int .u8 51,.int .i64 n,.string s,.slice a l.length cap] 26)
    rw[World.size_alloc]at hN
    have aP:=Lib.hid hg1
    have HU:=Lib.hid hU
    have HN:=Lib.hid hN
    clear hg1 hU hN
    have iK:=Lib.hid (Ni (.slice fa f.slots.length fc) (.slice ga procs.length gc) f procs 51 n s (.slice a l.length cap) l ((w.alloc (.cells #[.slice fa f.slots.length fc,.int .i64 f.cells,.int .i64 f.stacks,.slice ga procs.length gc] 141)).alloc (.cells #[.int .u8 51,.int .i64 n,.string s,.slice a l.length cap] 26)) (HF.out.later aP.out) (HP.out.later aP.out) (HX.out.later aP.out))
    simp only[aa.val]at iK
    have HR:=Lib.hid (show fT f (procs.map aM.d) (.mk 51 n s (aa.ts l))=qg f (procs.map aM.d) s (aa.ts l)from by simp[fT])
    go_enter Tryz.func159,Tryz.ntmps159
    go_wp2_with fail
    generalize ((w.alloc (.cells #[.slice fa f.slots.length fc,.int .i64 f.cells,.int .i64 f.stacks,.slice ga procs.length gc] 141)).alloc (.cells #[.int .u8 51,.int .i64 n,.string s,.slice a l.length cap] 26))=w1 at *
    refine iK.out.mono ?_
    rintro e w2 ⟨rfl,hg2⟩
    have iq:=Lib.hid (Mv.trans aP.out hg2 (λ_ e=>e.elim))
    clear hg2
    go_wp2_with fail
    go_ret
    exact⟨ax HR.out.symm,iq.out⟩
  have hr2:(k == 2)=false:=by simpa using h2
  have adr:(k == 54)=false:=by simpa using xw
  have hr3:(k == 3)=false:=by simpa using h3
  have hr4:(k == 4)=false:=by simpa using h4
  have Mk:(k == 5)=false:=by simpa using h5
  have adn:(k == 44)=false:=by simpa using zM
  have ado:(k == 45)=false:=by simpa using h45
  have ads:(k == 55)=false:=by simpa using xx
  have adp:(k == 50)=false:=by simpa using h50
  have adq:(k == 51)=false:=by simpa using uM
  have hg1:Grow w ((w.alloc (.cells #[.slice fa f.slots.length fc,.int .i64 f.cells,.int .i64 f.stacks,.slice ga procs.length gc] 141)).alloc (.cells #[.int .u8 k,.int .i64 n,.string s,.slice a l.length cap] 26)):=((Mv.refl _ _).alloc _).alloc _
  have hU:=dG (heap_alloc_new w (.cells #[.slice fa f.slots.length fc,.int .i64 f.cells,.int .i64 f.stacks,.slice ga procs.length gc] 141)) (.cells #[.int .u8 k,.int .i64 n,.string s,.slice a l.length cap] 26)
  have hN:=heap_alloc_new (w.alloc (.cells #[.slice fa f.slots.length fc,.int .i64 f.cells,.int .i64 f.stacks,.slice ga procs.length gc] 141)) (.cells #[.int .u8 k,.int .i64 n,.string s,.slice a l.length cap] 26)
  rw[World.size_alloc]at hN
  have aP:=Lib.hid hg1
  have HU:=Lib.hid hU
  have HN:=Lib.hid hN
  clear hg1 hU hN
  have dS:=Lib.hid (show fT f (procs.map aM.d) (.mk k n s (aa.ts l))=mr f (procs.map aM.d) (aa.ts l)from by simp[fT,h2,xw,h3,h4,h5,zM,h45,xx,h50,uM])
  have iq:=aP
  have mf:=HU
  obtain⟨⟨n0,n1⟩,n2,n3⟩:=fE HN.out
  have hln:=lt_of_block HN.out
  clear h2 xw h3 h4 h5 zM h45 xx h50 uM
  go_enter Tryz.func159,Tryz.ntmps159
  go_wp2_with fail
  clear n0 n1 n2 n3 hln
  generalize ((w.alloc (.cells #[.slice fa f.slots.length fc,.int .i64 f.cells,.int .i64 f.stacks,.slice ga procs.length gc] 141)).alloc (.cells #[.int .u8 k,.int .i64 n,.string s,.slice a l.length cap] 26))=w1 at *
  go_loopw [44] (λt wr=>∃ j:Nat,t = .int .i64 j/\j<=l.length/\(∀ i (h1:i<l.length),i<j->(l[i].t.kind == 57 || fT f (procs.map aM.d) l[i].t)=true)/\Grow w1 wr) (λt _=>l.length - (intOf t).toNat)
  case atStart=>exact⟨0,rfl,Nat.zero_le _,λi _ h=>by omega,Mv.refl _ _⟩
  obtain⟨j,rfl,hj,hall,hgr⟩:=hrel
  have ek:=Lib.hid hall
  have aU:=Lib.hid hgr
  have aS:=Lib.hid (Mv.trans iq.out hgr (λ_ e=>e.elim))
  have dF:=aJ mf.out hgr
  obtain⟨⟨u0,u1⟩,u2,u3⟩:=fE dF
  have zV:=lt_of_block dF
  clear hall hgr dF
  by_cases hlt:j<l.length
  · obtain⟨b,off,cap',e,_,hcc⟩:=(HX.out.row.2.2.2.1.later aS.out).at hlt
    simp only[Value.slice.injEq,true_and]at e
    obtain⟨rfl,rfl⟩:=e
    have dN:=HX.out.row.2.2.2.2 l[j] (List.getElem_mem hlt)
    have HI:=Lib.hid (λw' (h:Grow wr w')=>kJ.out l[j] (List.getElem_mem hlt) w' (Mv.trans aS.out h (λ_ e=>e.elim)))
    have HST:=Lib.hid (show((l[j].t.kind == 57 || fT f (procs.map aM.d) l[j].t)=true->∀ i (h1:i<l.length),i<j+1->(l[i].t.kind == 57 || fT f (procs.map aM.d) l[i].t)=true)from λh i h1 hij=>by
     rcases Nat.lt_or_ge i j with h3|h3
     · exact ek.out i h1 h3
     · obtain rfl:i=j:=by omega
       exact h)
    have dX:=Lib.hid (show((l[j].t.kind == 57 || fT f (procs.map aM.d) l[j].t)=false->mr f (procs.map aM.d) (aa.ts l)=false)from λh=>by
     rw[Dn]
     exact List.all_eq_false.2 ⟨l[j].t,by rw[aa.jd];exact List.mem_map.2 ⟨l[j],List.getElem_mem hlt,rfl⟩,by rw[h];simp⟩)
    generalize l[j]=y at HST dX HI dN hcc
    obtain⟨yk,yn,ys,uR,yl⟩:=y
    obtain⟨ya,yc,rfl,-,-⟩:=dN.form
    simp only[aa.val]at HI
    have c0:=hcc 0 _ rfl
    have c1:=hcc 1 _ rfl
    have c2:=hcc 2 _ rfl
    have c3:=hcc 3 _ rfl
    simp only[Nat.add_zero]at c0
    have hbl:b<wr.heap.size:=World.block_lt_of_cell? wr _ c0
    have aK:=Lib.hid (aU.out.alloc (.cells #[.int .u8 yk,.int .i64 yn,.string ys,.slice ya yl.length yc] 26))
    have mg:=Lib.hid (aS.out.alloc (.cells #[.int .u8 yk,.int .i64 yn,.string ys,.slice ya yl.length yc] 26))
    have HK:=Lib.hid (show(aa.mk yk yn ys (.slice ya yl.length yc) yl).t.kind=yk from by simp[aa.t,Tree.kind])
    rw[HK.out]at HST dX
    by_cases wP:yk=57
    · subst wP
      have dU:=Lib.hid (HST.out (by simp))
      clear hcc dN
      go_wp2_with fail
      go_roundw
      case rel=>exact⟨j+1,by go_num,by omega,dU.out,aK.out⟩
      case measure=>simp[intOf];omega
    · have hkn:(yk != 57)=true:=by simpa using wP
      have hkn2:(yk == 57)=false:=by simpa using wP
      have HC:=Lib.hid (HI.out (wr.alloc (.cells #[.int .u8 yk,.int .i64 yn,.string ys,.slice ya yl.length yc] 26)) ((Mv.refl _ _).alloc _))
      rw[hkn2,Bool.false_or]at HST dX
      generalize fT f (procs.map aM.d) (aa.mk yk yn ys (.slice ya yl.length yc) yl).t=bv at *
      clear hcc dN
      go_wp2_with fail
      refine HC.out.mono ?_
      rintro e w5 ⟨rfl,hg5⟩
      have jB:=Lib.hid (Mv.trans aK.out hg5 (λ_ e=>e.elim))
      have jh:=Lib.hid (Mv.trans mg.out hg5 (λ_ e=>e.elim))
      clear hg5
      cases bv with
      |true =>
       have dU:=Lib.hid (HST.out rfl)
       go_wp2_with fail
       go_roundw
       case rel=>exact⟨j+1,by go_num,by omega,dU.out,jB.out⟩
       case measure=>simp[intOf];omega
      |false =>
       have HR:=Lib.hid (show fT f (procs.map aM.d) (.mk k n s (aa.ts l))=false from by rw[dS.out,dX.out rfl])
       go_wp2_with fail
       go_ret
       exact⟨ax HR.out.symm,jh.out⟩
  obtain rfl:j=l.length:=by omega
  have HR:=Lib.hid (show fT f (procs.map aM.d) (.mk k n s (aa.ts l))=true from by
   rw[dS.out,Dn]
   refine List.all_eq_true.2 λt ht => ?_
   rw[aa.jd]at ht
   obtain⟨x,hx,rfl⟩:=List.mem_map.1 ht
   obtain⟨i,hi,rfl⟩:=List.mem_iff_getElem.1 hx
   exact ek.out i hi hi)
  go_wp2_with fail
  go_ret
  exact⟨ax HR.out.symm,aS.out⟩
end Go.Proofs.YtadecgbblajifaaGreatDoor
