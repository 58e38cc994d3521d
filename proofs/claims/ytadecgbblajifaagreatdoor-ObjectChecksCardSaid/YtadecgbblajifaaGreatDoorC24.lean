import Derived.Test.YtadecgbblajifaaGreatDoorC23
set_option linter.unusedSimpArgs false
set_option linter.unusedVariables false
set_option maxRecDepth 100000
set_option maxHeartbeats 25600000
namespace Go.Proofs.YtadecgbblajifaaGreatDoor
open Go.RowKit Go.Instr
theorem jM (l:List Tree):aC [ax] l=(l.length == 1 && lD l):=by
 match l with
 | []=>rfl
 | [t]=>simp[aC,lD]
 |_ :: _ :: _=>simp[aC]
theorem jN (l:List Tree):aC [ax,ax] l=(l.length == 2 && lD l):=by
 match l with
 | []=>rfl
 | [t]=>simp[aC]
 | [t,u]=>simp[aC,lD]
 |_ :: _ :: _ :: _=>simp[aC]
theorem jO (l:List Tree):aC [ax,dh,dh,ax] l=(aC [ax,λ_=>true,λ_=>true,ax] l && ((iZ l)[1]?.getD false && (iZ l)[2]?.getD false)):=by
 match l with
 | []=>rfl
 | [_]=>simp[aC]
 | [_,_]=>simp[aC]
 | [_,_,_]=>simp[aC]
 | [a,b,c,d] =>
  simp only[aC,yg,List.map_cons,List.map_nil,List.getElem?_cons_succ,List.getElem?_cons_zero,Option.getD_some,Bool.and_true,Bool.true_and]
  cases ax a <;> cases dh b <;> cases dh c <;> cases ax d <;> rfl
 |_ :: _ :: _ :: _ :: _ :: _=>simp[aC]
theorem jI (l:List Tree):aC [ax,dh,ax] l=(aC [ax,λ_=>true,ax] l && (iZ l)[1]?.getD false):=by
 match l with
 | []=>rfl
 | [_]=>simp[aC]
 | [_,_]=>simp[aC]
 | [a,b,c] =>
  simp only[aC,yg,List.map_cons,List.map_nil,List.getElem?_cons_succ,List.getElem?_cons_zero,Option.getD_some,Bool.and_true,Bool.true_and]
  cases ax a <;> cases dh b <;> cases ax c <;> rfl
 |_ :: _ :: _ :: _ :: _=>simp[aC]
theorem jP (l:List Tree):aC [dh] l=(l.length == 1 && (iZ l)[0]?.getD false):=by
 match l with
 | []=>rfl
 | [t]=>simp[aC,yg]
 |_ :: _ :: _=>simp[aC]
set_option maxRecDepth 100000 in
set_option maxHeartbeats 3200000 in
theorem Jr:∀ (m:Nat) (x:ae),SizeOf.sizeOf x<=m->∀ w:World,dS w x->Calls Tryz.prog 156 #[x.val] w (gQ w (ax x.t)):=by
 intro m
 induction m with
 |zero=>intro x hm;cases x;simp at hm
 |succ m ih =>
  intro x hm w hx
  obtain⟨k,n,s,kv,l⟩:=x
  obtain⟨a,cap,rfl,hcap,hlen⟩:=hx.form
  obtain⟨hk1,hk2⟩:=hx.row.1
  have hs:=hx.row.2.2.1
  have HX:=Lib.hid hx
  have wL:=Lib.hid (λ(y:ae) (hy:y∈l) (w':World) (hg:Grow w w')=>ih y (by have:=wT (k:=k) (n:=n) (s:=s) (kv := .slice a l.length cap) hy;omega) w' ((hx.row.2.2.2.2 y hy).later hg))
  clear ih hm hx
  simp only[ae.val,ae.t]
  by_cases h1:k=1
  · subst h1
    have HG:=Lib.hid (show Grow w (w.alloc (.cells #[.int .u8 1,.int .i64 n,.string s,.slice a l.length cap] 26))from(Mv.refl _ _).alloc _)
    by_cases hn0:0<=n
    · by_cases hs0:s.size=0
      · have hemp:=Be hs0
        cases l with
        |nil =>
         have HR:=Lib.hid (show ax (.mk 1 n s (ae.ts []))=true from by simp[ax,hn0,hs0,ae.ts])
         simp only[List.length_nil]at HG ⊢
         clear hs0
         go_enter Tryz.func156,Tryz.ntmps156
         go_wp2_with fail
         go_ret
         exact⟨aj HR.out.symm,HG.out⟩
        |cons x r =>
         have HR:=Lib.hid (show ax (.mk 1 n s (ae.ts (x :: r)))=false from by simp[ax,ae.ts])
         have hl1:((r.length+1:Nat) == 0)=false:=by simp
         simp only[List.length_cons]at HG ⊢
         clear hs0
         go_enter Tryz.func156,Tryz.ntmps156
         go_wp2_with fail
         go_ret
         exact⟨aj HR.out.symm,HG.out⟩
      · have hne:=oF (s:=s) (by omega)
        have HR:=Lib.hid (show ax (.mk 1 n s (ae.ts l))=false from by simp[ax,hs0])
        clear hs0
        go_enter Tryz.func156,Tryz.ntmps156
        go_wp2_with fail
        go_ret
        exact⟨aj HR.out.symm,HG.out⟩
    · have HR:=Lib.hid (show ax (.mk 1 n s (ae.ts l))=false from by simp[ax,hn0])
      go_enter Tryz.func156,Tryz.ntmps156
      go_wp2_with fail
      go_ret
      exact⟨aj HR.out.symm,HG.out⟩
  by_cases hG:k=2\/k=4\/k=5
  · have HG:=Lib.hid (show Grow w (w.alloc (.cells #[.int .u8 k,.int .i64 n,.string s,.slice a l.length cap] 26))from(Mv.refl _ _).alloc _)
    have HB:=Lib.hid (heap_alloc_new w (.cells #[.int .u8 k,.int .i64 n,.string s,.slice a l.length cap] 26))
    have cK:=Lib.hid (mJ k n s a l cap (w.alloc (.cells #[.int .u8 k,.int .i64 n,.string s,.slice a l.length cap] 26)) hs)
    have cO:=Lib.hid (show bu n s=false->ax (.mk k n s (ae.ts l))=false from λh=>by rcases hG with rfl|rfl|rfl <;> simp[ax,h])
    have bY:=Lib.hid (show bu n s=true->ax (.mk k n s (ae.ts l))=l.isEmpty from λh=>by rcases hG with rfl|rfl|rfl <;> simp[ax,h,ae.rH])
    rcases hG with rfl|rfl|rfl
    all_goals
     go_enter Tryz.func156,Tryz.ntmps156
     go_wp2_with fail
     refine cK.out.mono ?_
     rintro e w2 ⟨rfl,hg2⟩
     have HG2:=Lib.hid (Mv.trans HG.out hg2 (λ_ e=>e.elim))
     have hb2:=dU HB.out hg2
     obtain⟨m0,m1,m2,m3⟩:=eY hb2
     have hlb:=lt_of_block hb2
     clear hg2 hb2
     generalize bu n s=pb at *
     cases pb with
     |false =>
      have HR:=Lib.hid (cO.out rfl)
      go_wp2_with fail
      go_ret
      exact⟨aj HR.out.symm,HG2.out⟩
     |true =>
      have HR:=Lib.hid (bY.out rfl)
      cases l with
      |nil =>
       simp only[List.length_nil]at m3 ⊢
       go_wp2_with fail
       go_ret
       exact⟨aj HR.out.symm,HG2.out⟩
      |cons x r =>
       have hl1:((r.length+1:Nat) == 0)=false:=by simp
       simp only[List.length_cons]at m3 ⊢
       go_wp2_with fail
       go_ret
       exact⟨aj HR.out.symm,HG2.out⟩
  have h2:k≠2:=by omega
  have h4:k≠4:=by omega
  have h5:k≠5:=by omega
  clear hG
  by_cases h3:k=3
  · subst h3
    have HG:=Lib.hid (show Grow w (w.alloc (.cells #[.int .u8 3,.int .i64 n,.string s,.slice a l.length cap] 26))from(Mv.refl _ _).alloc _)
    have HB:=Lib.hid (heap_alloc_new w (.cells #[.int .u8 3,.int .i64 n,.string s,.slice a l.length cap] 26))
    have cK:=Lib.hid (mJ 3 n s a l cap (w.alloc (.cells #[.int .u8 3,.int .i64 n,.string s,.slice a l.length cap] 26)) hs)
    have cO:=Lib.hid (show bu n s=false->ax (.mk 3 n s (ae.ts l))=false from λh=>by simp[ax,h])
    have bY:=Lib.hid (show bu n s=true->ax (.mk 3 n s (ae.ts l))=aC [ax] (ae.ts l)from λh=>by simp[ax,h,jM,jN,jO,jI,jP])
    go_enter Tryz.func156,Tryz.ntmps156
    go_wp2_with fail
    refine cK.out.mono ?_
    rintro e w2 ⟨rfl,hg2⟩
    have HG2:=Lib.hid (Mv.trans HG.out hg2 (λ_ e=>e.elim))
    have hb2:=dU HB.out hg2
    obtain⟨m0,m1,m2,m3⟩:=eY hb2
    have hlb:=lt_of_block hb2
    clear hg2 hb2
    generalize bu n s=pb at *
    cases pb with
    |false =>
     have HR:=Lib.hid (cO.out rfl)
     go_wp2_with fail
     go_ret
     exact⟨aj HR.out.symm,HG2.out⟩
    |true =>
     have HR:=Lib.hid (bY.out rfl)
     have aN:=Lib.hid (HG2.out.alloc (.cells #[.func (.func 156) #[] #[]] 73))
     have HK:=Lib.hid (jL 3 n s (.slice a l.length cap) l [156] [ax] (.slice (some ⟨w2.heap.size,0,none⟩) 1 1) (w2.alloc (.cells #[.func (.func 156) #[] #[]] 73)) (HX.out.later aN.out) (aA.ji (l:=[156]) (λ_=>rfl) (heap_alloc_new w2 _) rfl (by simp)) rfl (by decide) (λi hi hk hp w' hg=>by
      have hgw:=Mv.trans aN.out hg (λ_ e=>e.elim)
      have hm:=List.getElem_mem hk
      simp only[List.length_cons,List.length_nil]at hi
      skip
      obtain rfl:i=0:=by omega
      exact wL.out _ hm w' hgw))
     simp only[ae.val]at HK
     go_wp2_with fail
     refine HK.out.mono ?_
     rintro e w3 ⟨rfl,hg3⟩
     have aZ:=Lib.hid (Mv.trans aN.out hg3 (λ_ e=>e.elim))
     clear hg3
     go_wp2_with fail
     go_ret
     exact⟨aj HR.out.symm,aZ.out⟩
  by_cases hG:k=6\/k=7
  · have HG:=Lib.hid (show Grow w (w.alloc (.cells #[.int .u8 k,.int .i64 n,.string s,.slice a l.length cap] 26))from(Mv.refl _ _).alloc _)
    have HB:=Lib.hid (heap_alloc_new w (.cells #[.int .u8 k,.int .i64 n,.string s,.slice a l.length cap] 26))
    have cK:=Lib.hid (mI k n s a l cap (w.alloc (.cells #[.int .u8 k,.int .i64 n,.string s,.slice a l.length cap] 26)))
    have cO:=Lib.hid (show aY n s=false->ax (.mk k n s (ae.ts l))=false from λh=>by rcases hG with rfl|rfl <;> simp[ax,h])
    have bY:=Lib.hid (show aY n s=true->ax (.mk k n s (ae.ts l))=aC [ax] (ae.ts l)from λh=>by rcases hG with rfl|rfl <;> simp[ax,h,jM,jN,jO,jI,jP])
    rcases hG with rfl|rfl
    all_goals
     go_enter Tryz.func156,Tryz.ntmps156
     go_wp2_with fail
     refine cK.out.mono ?_
     rintro e w2 ⟨rfl,hg2⟩
     have HG2:=Lib.hid (Mv.trans HG.out hg2 (λ_ e=>e.elim))
     have hb2:=dU HB.out hg2
     obtain⟨m0,m1,m2,m3⟩:=eY hb2
     have hlb:=lt_of_block hb2
     clear hg2 hb2
     generalize aY n s=pb at *
     cases pb with
     |false =>
      have HR:=Lib.hid (cO.out rfl)
      go_wp2_with fail
      go_ret
      exact⟨aj HR.out.symm,HG2.out⟩
     |true =>
      have HR:=Lib.hid (bY.out rfl)
      have aN:=Lib.hid (HG2.out.alloc (.cells #[.func (.func 156) #[] #[]] 73))
      have HK:=Lib.hid (jL _ n s (.slice a l.length cap) l [156] [ax] (.slice (some ⟨w2.heap.size,0,none⟩) 1 1) (w2.alloc (.cells #[.func (.func 156) #[] #[]] 73)) (HX.out.later aN.out) (aA.ji (l:=[156]) (λ_=>rfl) (heap_alloc_new w2 _) rfl (by simp)) rfl (by decide) (λi hi hk hp w' hg=>by
       have hgw:=Mv.trans aN.out hg (λ_ e=>e.elim)
       have hm:=List.getElem_mem hk
       simp only[List.length_cons,List.length_nil]at hi
       skip
       obtain rfl:i=0:=by omega
       exact wL.out _ hm w' hgw))
      simp only[ae.val]at HK
      go_wp2_with fail
      refine HK.out.mono ?_
      rintro e w3 ⟨rfl,hg3⟩
      have aZ:=Lib.hid (Mv.trans aN.out hg3 (λ_ e=>e.elim))
      clear hg3
      go_wp2_with fail
      go_ret
      exact⟨aj HR.out.symm,aZ.out⟩
  have h6:k≠6:=by omega
  have h7:k≠7:=by omega
  clear hG
  by_cases hrange:8<=k/\k<=23
  · obtain⟨h8,h23⟩:=hrange
    have hr1:(k == 1)=false:=by simp;omega
    have hr2:(k == 2)=false:=by simp;omega
    have hr4:(k == 4)=false:=by simp;omega
    have PN:(k == 5)=false:=by simp;omega
    have hr3:(k == 3)=false:=by simp;omega
    have PO:(k == 6)=false:=by simp;omega
    have PR:(k == 7)=false:=by simp;omega
    have HG:=Lib.hid (show Grow w (w.alloc (.cells #[.int .u8 k,.int .i64 n,.string s,.slice a l.length cap] 26))from(Mv.refl _ _).alloc _)
    have HB:=Lib.hid (heap_alloc_new w (.cells #[.int .u8 k,.int .i64 n,.string s,.slice a l.length cap] 26))
    have cK:=Lib.hid (mI k n s a l cap (w.alloc (.cells #[.int .u8 k,.int .i64 n,.string s,.slice a l.length cap] 26)))
    have cO:=Lib.hid (show aY n s=false->ax (.mk k n s (ae.ts l))=false from λh=>by simp[ax,h,show ¬ k=1 from by omega,show ¬ k=2 from by omega,show ¬ k=4 from by omega,show ¬ k=5 from by omega,show ¬ k=3 from by omega,show ¬ k=6 from by omega,show ¬ k=7 from by omega,h8,h23])
    have bY:=Lib.hid (show aY n s=true->ax (.mk k n s (ae.ts l))=aC [ax,ax] (ae.ts l)from λh=>by simp[ax,h,jM,jN,jO,jI,jP,show ¬ k=1 from by omega,show ¬ k=2 from by omega,show ¬ k=4 from by omega,show ¬ k=5 from by omega,show ¬ k=3 from by omega,show ¬ k=6 from by omega,show ¬ k=7 from by omega,h8,h23])
    go_enter Tryz.func156,Tryz.ntmps156
    go_wp2_with fail
    refine cK.out.mono ?_
    rintro e w2 ⟨rfl,hg2⟩
    have HG2:=Lib.hid (Mv.trans HG.out hg2 (λ_ e=>e.elim))
    have hb2:=dU HB.out hg2
    obtain⟨m0,m1,m2,m3⟩:=eY hb2
    have hlb:=lt_of_block hb2
    clear hg2 hb2
    generalize aY n s=pb at *
    cases pb with
    |false =>
     have HR:=Lib.hid (cO.out rfl)
     go_wp2_with fail
     go_ret
     exact⟨aj HR.out.symm,HG2.out⟩
    |true =>
     have HR:=Lib.hid (bY.out rfl)
     have aN:=Lib.hid (HG2.out.alloc (.cells #[.func (.func 156) #[] #[],.func (.func 156) #[] #[]] 73))
     have HK:=Lib.hid (jL k n s (.slice a l.length cap) l [156,156] [ax,ax] (.slice (some ⟨w2.heap.size,0,none⟩) 2 2) (w2.alloc (.cells #[.func (.func 156) #[] #[],.func (.func 156) #[] #[]] 73)) (HX.out.later aN.out) (aA.ji (l:=[156,156]) (λ_=>rfl) (heap_alloc_new w2 _) rfl (by simp)) rfl (by decide) (λi hi hk hp w' hg=>by
      have hgw:=Mv.trans aN.out hg (λ_ e=>e.elim)
      have hm:=List.getElem_mem hk
      simp only[List.length_cons,List.length_nil]at hi
      rcases Nat.lt_or_ge i 1 with h0|h0
      · obtain rfl:i=0:=by omega
        exact wL.out _ hm w' hgw
      skip
      obtain rfl:i=1:=by omega
      exact wL.out _ hm w' hgw))
     simp only[ae.val]at HK
     go_wp2_with fail
     refine HK.out.mono ?_
     rintro e w3 ⟨rfl,hg3⟩
     have aZ:=Lib.hid (Mv.trans aN.out hg3 (λ_ e=>e.elim))
     clear hg3
     go_wp2_with fail
     go_ret
     exact⟨aj HR.out.symm,aZ.out⟩
  · 
    have hr1:(k == 1)=false:=by simp;omega
    have hr2:(k == 2)=false:=by simp;omega
    have hr4:(k == 4)=false:=by simp;omega
    have PN:(k == 5)=false:=by simp;omega
    have hr3:(k == 3)=false:=by simp;omega
    have PO:(k == 6)=false:=by simp;omega
    have PR:(k == 7)=false:=by simp;omega
    have HG:=Lib.hid (show Grow w (w.alloc (.cells #[.int .u8 k,.int .i64 n,.string s,.slice a l.length cap] 26))from(Mv.refl _ _).alloc _)
    have HR:=Lib.hid (show ax (.mk k n s (ae.ts l))=false from by simp[ax,show ¬ k=1 from by omega,show ¬ k=2 from by omega,show ¬ k=4 from by omega,show ¬ k=5 from by omega,show ¬ k=3 from by omega,show ¬ k=6 from by omega,show ¬ k=7 from by omega,hrange])
    rcases Nat.lt_or_ge k.toNat 8 with hq|hq
    · have hq1:k<8:=by omega
      go_enter Tryz.func156,Tryz.ntmps156
      go_wp2_with fail
      go_ret
      exact⟨aj HR.out.symm,HG.out⟩
    · have hq1:8<=k:=by omega
      have hq2:23<k:=by omega
      go_enter Tryz.func156,Tryz.ntmps156
      go_wp2_with fail
      go_ret
      exact⟨aj HR.out.symm,HG.out⟩
theorem mK (x:ae) (w:World) (h:dS w x):Calls Tryz.prog 156 #[x.val] w (gQ w (ax x.t)):=Jr _ x (Nat.le_refl _) w h
set_option maxRecDepth 100000 in
set_option maxHeartbeats 1600000 in
theorem qE (x:ae) (w:World) (hx:dS w x):Calls Tryz.prog 155 #[x.val] w (gQ w (dV x.t)):=by
 obtain⟨k,n,s,kv,l⟩:=x
 obtain⟨a,cap,rfl,hcap,hlen⟩:=hx.form
 obtain⟨hk1,hk2⟩:=hx.row.1
 have HG:=Lib.hid (show Grow w (w.alloc (.cells #[.int .u8 k,.int .i64 n,.string s,.slice a l.length cap] 26))from(Mv.refl _ _).alloc _)
 have HE:=Lib.hid (mK (.mk k n s (.slice a l.length cap) l) (w.alloc (.cells #[.int .u8 k,.int .i64 n,.string s,.slice a l.length cap] 26)) (hx.later HG.out))
 simp only[ae.val,ae.t]at HE ⊢
 clear hx
 by_cases hk:k=2\/k=3
 · have HR:=Lib.hid (show dV (.mk k n s (ae.ts l))=ax (.mk k n s (ae.ts l))from by rcases hk with rfl|rfl <;> simp[dV,Tree.kind])
   generalize ax (.mk k n s (ae.ts l))=bv at *
   rcases hk with rfl|rfl
   all_goals
    go_enter Tryz.func155,Tryz.ntmps155
    go_wp2_with fail
    refine HE.out.mono ?_
    rintro e w2 ⟨rfl,hg2⟩
    have HG2:=Lib.hid (Mv.trans HG.out hg2 (λ_ e=>e.elim))
    clear hg2
    go_wp2_with fail
    go_ret
    exact⟨aj HR.out.symm,HG2.out⟩
 · have hr2:(k == 2)=false:=(by simp <;> omega);have hr3:(k == 3)=false:=(by simp <;> omega)
   have HR:=Lib.hid (show dV (.mk k n s (ae.ts l))=false from by simp[dV,Tree.kind,show ¬ k=2 from by omega,show ¬ k=3 from by omega])
   go_enter Tryz.func155,Tryz.ntmps155
   go_wp2_with fail
   go_ret
   exact⟨aj HR.out.symm,HG.out⟩
set_option maxRecDepth 100000 in
set_option maxHeartbeats 1600000 in
theorem BO (x:ae) (w:World) (hx:dS w x):Calls Tryz.prog 158 #[x.val] w (gQ w (iM x.t)):=by
 obtain⟨k,n,s,kv,l⟩:=x
 obtain⟨a,cap,rfl,hcap,hlen⟩:=hx.form
 obtain⟨hk1,hk2⟩:=hx.row.1
 have HG:=Lib.hid (show Grow w (w.alloc (.cells #[.int .u8 k,.int .i64 n,.string s,.slice a l.length cap] 26))from(Mv.refl _ _).alloc _)
 have HE:=Lib.hid (mK (.mk k n s (.slice a l.length cap) l) (w.alloc (.cells #[.int .u8 k,.int .i64 n,.string s,.slice a l.length cap] 26)) (hx.later HG.out))
 simp only[ae.val,ae.t]at HE ⊢
 clear hx
 by_cases hk:k=2
 · have HR:=Lib.hid (show iM (.mk k n s (ae.ts l))=ax (.mk k n s (ae.ts l))from by rcases hk with rfl <;> simp[iM,Tree.kind])
   generalize ax (.mk k n s (ae.ts l))=bv at *
   rcases hk with rfl
   all_goals
    go_enter Tryz.func158,Tryz.ntmps158
    go_wp2_with fail
    refine HE.out.mono ?_
    rintro e w2 ⟨rfl,hg2⟩
    have HG2:=Lib.hid (Mv.trans HG.out hg2 (λ_ e=>e.elim))
    clear hg2
    go_wp2_with fail
    go_ret
    exact⟨aj HR.out.symm,HG2.out⟩
 · have hr2:(k == 2)=false:=(by simp <;> omega)
   have HR:=Lib.hid (show iM (.mk k n s (ae.ts l))=false from by simp[iM,Tree.kind,show ¬ k=2 from by omega])
   go_enter Tryz.func158,Tryz.ntmps158
   go_wp2_with fail
   go_ret
   exact⟨aj HR.out.symm,HG.out⟩
def CE (m:Nat):Prop:=∀ (x:ae),SizeOf.sizeOf x<=m->∀ w:World,dS w x->Calls Tryz.prog 116 #[x.val] w (gQ w (aK x.t))
def BP (m:Nat):Prop:=∀ (x:ae),SizeOf.sizeOf x<=m->∀ w:World,dS w x->Calls Tryz.prog 77 #[x.val] w (gQ w (dh x.t))
set_option maxRecDepth 100000 in
set_option maxHeartbeats 1600000 in
theorem PX (m:Nat) (ih:CE m):BP (m+1):=by
 intro x hm w hx
 obtain⟨k,n,s,kv,l⟩:=x
 obtain⟨a,cap,rfl,hcap,hlen⟩:=hx.form
 obtain⟨hk1,hk2⟩:=hx.row.1
 have HIS:=Lib.hid (λ(y:ae) (hy:y∈l) (w':World) (hg:Grow w w')=>ih y (by have:=wT (k:=k) (n:=n) (s:=s) (kv := .slice a l.length cap) hy;omega) w' ((hx.row.2.2.2.2 y hy).later hg))
 have HX:=Lib.hid hx
 clear ih hm hx
 simp only[ae.val,ae.t]
 by_cases h57:k=57
 · subst h57
   have HG:=Lib.hid (show Grow w (w.alloc (.cells #[.int .u8 57,.int .i64 n,.string s,.slice a l.length cap] 26))from(Mv.refl _ _).alloc _)
   have HB:=Lib.hid (heap_alloc_new w (.cells #[.int .u8 57,.int .i64 n,.string s,.slice a l.length cap] 26))
   have cK:=Lib.hid (mI 57 n s a l cap (w.alloc (.cells #[.int .u8 57,.int .i64 n,.string s,.slice a l.length cap] 26)))
   have cO:=Lib.hid (show aY n s=false->dh (.mk 57 n s (ae.ts l))=false from λh=>by simp[dh,h])
   have bY:=Lib.hid (show aY n s=true->dh (.mk 57 n s (ae.ts l))=(ae.ts l).all aK from λh=>by simp[dh,h,Jq])
   go_enter Tryz.func77,Tryz.ntmps77
   go_wp2_with fail
   refine cK.out.mono ?_
   rintro e w2 ⟨rfl,hg2⟩
   have HG2:=Lib.hid (Mv.trans HG.out hg2 (λ_ e=>e.elim))
   have hb2:=dU HB.out hg2
   obtain⟨m0,m1,m2,m3⟩:=eY hb2
   have hlb:=lt_of_block hb2
   clear hg2 hb2
   generalize aY n s=pb at *
   cases pb with
   |false =>
    have HR:=Lib.hid (cO.out rfl)
    go_wp2_with fail
    go_ret
    exact⟨aj HR.out.symm,HG2.out⟩
   |true =>
    have HR:=Lib.hid (bY.out rfl)
    have HE:=Lib.hid (xm (.slice a l.length cap) l 116 aK w2 (HX.out.row.2.2.2.1.later HG2.out) (λx hx=>(HX.out.row.2.2.2.2 x hx).later HG2.out) (.inl rfl) (λx hx w' hg=>HIS.out x hx w' (Mv.trans HG2.out hg (λ_ e=>e.elim))))
    go_wp2_with fail
    refine HE.out.mono ?_
    rintro e w3 ⟨rfl,hg3⟩
    have aZ:=Lib.hid (Mv.trans HG2.out hg3 (λ_ e=>e.elim))
    clear hg3
    go_wp2_with fail
    go_ret
    exact⟨aj HR.out.symm,aZ.out⟩
 · have Qr:(k == 57)=false:=by simpa using h57
   have HG:=Lib.hid (show Grow w (w.alloc (.cells #[.int .u8 k,.int .i64 n,.string s,.slice a l.length cap] 26))from(Mv.refl _ _).alloc _)
   have HR:=Lib.hid (show dh (.mk k n s (ae.ts l))=false from by simp[dh,h57])
   go_enter Tryz.func77,Tryz.ntmps77
   go_wp2_with fail
   go_ret
   exact⟨aj HR.out.symm,HG.out⟩
set_option maxRecDepth 100000 in
set_option maxHeartbeats 6400000 in
theorem PY (m:Nat) (ih:BP m):CE (m+1):=by
 intro x hm w hx
 obtain⟨k,n,s,kv,l⟩:=x
 obtain⟨a,cap,rfl,hcap,hlen⟩:=hx.form
 obtain⟨hk1,hk2⟩:=hx.row.1
 have hs:=hx.row.2.2.1
 have HX:=Lib.hid hx
 have wM:=Lib.hid (λ(y:ae) (hy:y∈l) (w':World) (hg:Grow w w')=>ih y (by have:=wT (k:=k) (n:=n) (s:=s) (kv := .slice a l.length cap) hy;omega) w' ((hx.row.2.2.2.2 y hy).later hg))
 clear ih hm hx
 simp only[ae.val,ae.t]
 by_cases hG:k=40\/k=41\/k=42\/k=56
 · have HG:=Lib.hid (show Grow w (w.alloc (.cells #[.int .u8 k,.int .i64 n,.string s,.slice a l.length cap] 26))from(Mv.refl _ _).alloc _)
   have HB:=Lib.hid (heap_alloc_new w (.cells #[.int .u8 k,.int .i64 n,.string s,.slice a l.length cap] 26))
   have cK:=Lib.hid (mI k n s a l cap (w.alloc (.cells #[.int .u8 k,.int .i64 n,.string s,.slice a l.length cap] 26)))
   have cO:=Lib.hid (show aY n s=false->aK (.mk k n s (ae.ts l))=false from λh=>by rcases hG with rfl|rfl|rfl|rfl <;> simp[aK,h])
   have bY:=Lib.hid (show aY n s=true->aK (.mk k n s (ae.ts l))=aC [dV,ax] (ae.ts l)from λh=>by rcases hG with rfl|rfl|rfl|rfl <;> simp[aK,h,jM,jN,jO,jI,jP])
   rcases hG with rfl|rfl|rfl|rfl
   all_goals
    go_enter Tryz.func116,Tryz.ntmps116
    go_wp2_with fail
    refine cK.out.mono ?_
    rintro e w2 ⟨rfl,hg2⟩
    have HG2:=Lib.hid (Mv.trans HG.out hg2 (λ_ e=>e.elim))
    have hb2:=dU HB.out hg2
    obtain⟨m0,m1,m2,m3⟩:=eY hb2
    have hlb:=lt_of_block hb2
    clear hg2 hb2
    generalize aY n s=pb at *
    cases pb with
    |false =>
     have HR:=Lib.hid (cO.out rfl)
     go_wp2_with fail
     go_ret
     exact⟨aj HR.out.symm,HG2.out⟩
    |true =>
     have HR:=Lib.hid (bY.out rfl)
     have aN:=Lib.hid (HG2.out.alloc (.cells #[.func (.func 155) #[] #[],.func (.func 156) #[] #[]] 73))
     have HK:=Lib.hid (jL _ n s (.slice a l.length cap) l [155,156] [dV,ax] (.slice (some ⟨w2.heap.size,0,none⟩) 2 2) (w2.alloc (.cells #[.func (.func 155) #[] #[],.func (.func 156) #[] #[]] 73)) (HX.out.later aN.out) (aA.ji (l:=[155,156]) (λ_=>rfl) (heap_alloc_new w2 _) rfl (by simp)) rfl (by decide) (λi hi hk hp w' hg=>by
      have hgw:=Mv.trans aN.out hg (λ_ e=>e.elim)
      have hm:=List.getElem_mem hk
      simp only[List.length_cons,List.length_nil]at hi
      rcases Nat.lt_or_ge i 1 with h0|h0
      · obtain rfl:i=0:=by omega
        exact qE _ w' ((HX.out.row.2.2.2.2 _ hm).later hgw)
      skip
      obtain rfl:i=1:=by omega
      exact mK _ w' ((HX.out.row.2.2.2.2 _ hm).later hgw)))
     simp only[ae.val]at HK
     go_wp2_with fail
     refine HK.out.mono ?_
     rintro e w3 ⟨rfl,hg3⟩
     have aZ:=Lib.hid (Mv.trans aN.out hg3 (λ_ e=>e.elim))
     clear hg3
     go_wp2_with fail
     go_ret
     exact⟨aj HR.out.symm,aZ.out⟩
 have Ho:k≠40:=by omega
 have Hq:k≠41:=by omega
 have Hr:k≠42:=by omega
 have Ht:k≠56:=by omega
 clear hG
 by_cases h43:k=43
 · subst h43
   have HG:=Lib.hid (show Grow w (w.alloc (.cells #[.int .u8 43,.int .i64 n,.string s,.slice a l.length cap] 26))from(Mv.refl _ _).alloc _)
   have HB:=Lib.hid (heap_alloc_new w (.cells #[.int .u8 43,.int .i64 n,.string s,.slice a l.length cap] 26))
   have cK:=Lib.hid (mI 43 n s a l cap (w.alloc (.cells #[.int .u8 43,.int .i64 n,.string s,.slice a l.length cap] 26)))
   have cO:=Lib.hid (show aY n s=false->aK (.mk 43 n s (ae.ts l))=false from λh=>by simp[aK,h])
   have bY:=Lib.hid (show aY n s=true->aK (.mk 43 n s (ae.ts l))=aC [dV,dV] (ae.ts l)from λh=>by simp[aK,h,jM,jN,jO,jI,jP])
   go_enter Tryz.func116,Tryz.ntmps116
   go_wp2_with fail
   refine cK.out.mono ?_
   rintro e w2 ⟨rfl,hg2⟩
   have HG2:=Lib.hid (Mv.trans HG.out hg2 (λ_ e=>e.elim))
   have hb2:=dU HB.out hg2
   obtain⟨m0,m1,m2,m3⟩:=eY hb2
   have hlb:=lt_of_block hb2
   clear hg2 hb2
   generalize aY n s=pb at *
   cases pb with
   |false =>
    have HR:=Lib.hid (cO.out rfl)
    go_wp2_with fail
    go_ret
    exact⟨aj HR.out.symm,HG2.out⟩
   |true =>
    have HR:=Lib.hid (bY.out rfl)
    have aN:=Lib.hid (HG2.out.alloc (.cells #[.func (.func 155) #[] #[],.func (.func 155) #[] #[]] 73))
    have HK:=Lib.hid (jL 43 n s (.slice a l.length cap) l [155,155] [dV,dV] (.slice (some ⟨w2.heap.size,0,none⟩) 2 2) (w2.alloc (.cells #[.func (.func 155) #[] #[],.func (.func 155) #[] #[]] 73)) (HX.out.later aN.out) (aA.ji (l:=[155,155]) (λ_=>rfl) (heap_alloc_new w2 _) rfl (by simp)) rfl (by decide) (λi hi hk hp w' hg=>by
     have hgw:=Mv.trans aN.out hg (λ_ e=>e.elim)
     have hm:=List.getElem_mem hk
     simp only[List.length_cons,List.length_nil]at hi
     rcases Nat.lt_or_ge i 1 with h0|h0
     · obtain rfl:i=0:=by omega
       exact qE _ w' ((HX.out.row.2.2.2.2 _ hm).later hgw)
     skip
     obtain rfl:i=1:=by omega
     exact qE _ w' ((HX.out.row.2.2.2.2 _ hm).later hgw)))
    simp only[ae.val]at HK
    go_wp2_with fail
    refine HK.out.mono ?_
    rintro e w3 ⟨rfl,hg3⟩
    have aZ:=Lib.hid (Mv.trans aN.out hg3 (λ_ e=>e.elim))
    clear hg3
    go_wp2_with fail
    go_ret
    exact⟨aj HR.out.symm,aZ.out⟩
 by_cases hG:k=44\/k=45
 · have HG:=Lib.hid (show Grow w (w.alloc (.cells #[.int .u8 k,.int .i64 n,.string s,.slice a l.length cap] 26))from(Mv.refl _ _).alloc _)
   have HB:=Lib.hid (heap_alloc_new w (.cells #[.int .u8 k,.int .i64 n,.string s,.slice a l.length cap] 26))
   have cK:=Lib.hid (mJ k n s a l cap (w.alloc (.cells #[.int .u8 k,.int .i64 n,.string s,.slice a l.length cap] 26)) hs)
   have cO:=Lib.hid (show bu n s=false->aK (.mk k n s (ae.ts l))=false from λh=>by rcases hG with rfl|rfl <;> simp[aK,h])
   have bY:=Lib.hid (show bu n s=true->aK (.mk k n s (ae.ts l))=aC [dV] (ae.ts l)from λh=>by rcases hG with rfl|rfl <;> simp[aK,h,jM,jN,jO,jI,jP])
   rcases hG with rfl|rfl
   all_goals
    go_enter Tryz.func116,Tryz.ntmps116
    go_wp2_with fail
    refine cK.out.mono ?_
    rintro e w2 ⟨rfl,hg2⟩
    have HG2:=Lib.hid (Mv.trans HG.out hg2 (λ_ e=>e.elim))
    have hb2:=dU HB.out hg2
    obtain⟨m0,m1,m2,m3⟩:=eY hb2
    have hlb:=lt_of_block hb2
    clear hg2 hb2
    generalize bu n s=pb at *
    cases pb with
    |false =>
     have HR:=Lib.hid (cO.out rfl)
     go_wp2_with fail
     go_ret
     exact⟨aj HR.out.symm,HG2.out⟩
    |true =>
     have HR:=Lib.hid (bY.out rfl)
     have aN:=Lib.hid (HG2.out.alloc (.cells #[.func (.func 155) #[] #[]] 73))
     have HK:=Lib.hid (jL _ n s (.slice a l.length cap) l [155] [dV] (.slice (some ⟨w2.heap.size,0,none⟩) 1 1) (w2.alloc (.cells #[.func (.func 155) #[] #[]] 73)) (HX.out.later aN.out) (aA.ji (l:=[155]) (λ_=>rfl) (heap_alloc_new w2 _) rfl (by simp)) rfl (by decide) (λi hi hk hp w' hg=>by
      have hgw:=Mv.trans aN.out hg (λ_ e=>e.elim)
      have hm:=List.getElem_mem hk
      simp only[List.length_cons,List.length_nil]at hi
      skip
      obtain rfl:i=0:=by omega
      exact qE _ w' ((HX.out.row.2.2.2.2 _ hm).later hgw)))
     simp only[ae.val]at HK
     go_wp2_with fail
     refine HK.out.mono ?_
     rintro e w3 ⟨rfl,hg3⟩
     have aZ:=Lib.hid (Mv.trans aN.out hg3 (λ_ e=>e.elim))
     clear hg3
     go_wp2_with fail
     go_ret
     exact⟨aj HR.out.symm,aZ.out⟩
 have Hu:k≠44:=by omega
 have h45:k≠45:=by omega
 clear hG
 by_cases hG:k=46\/k=47\/k=48\/k=49
 · have HG:=Lib.hid (show Grow w (w.alloc (.cells #[.int .u8 k,.int .i64 n,.string s,.slice a l.length cap] 26))from(Mv.refl _ _).alloc _)
   have HB:=Lib.hid (heap_alloc_new w (.cells #[.int .u8 k,.int .i64 n,.string s,.slice a l.length cap] 26))
   have cK:=Lib.hid (mI k n s a l cap (w.alloc (.cells #[.int .u8 k,.int .i64 n,.string s,.slice a l.length cap] 26)))
   have cO:=Lib.hid (show aY n s=false->aK (.mk k n s (ae.ts l))=false from λh=>by rcases hG with rfl|rfl|rfl|rfl <;> simp[aK,h])
   have bY:=Lib.hid (show aY n s=true->aK (.mk k n s (ae.ts l))=aC [dV] (ae.ts l)from λh=>by rcases hG with rfl|rfl|rfl|rfl <;> simp[aK,h,jM,jN,jO,jI,jP])
   rcases hG with rfl|rfl|rfl|rfl
   all_goals
    go_enter Tryz.func116,Tryz.ntmps116
    go_wp2_with fail
    refine cK.out.mono ?_
    rintro e w2 ⟨rfl,hg2⟩
    have HG2:=Lib.hid (Mv.trans HG.out hg2 (λ_ e=>e.elim))
    have hb2:=dU HB.out hg2
    obtain⟨m0,m1,m2,m3⟩:=eY hb2
    have hlb:=lt_of_block hb2
    clear hg2 hb2
    generalize aY n s=pb at *
    cases pb with
    |false =>
     have HR:=Lib.hid (cO.out rfl)
     go_wp2_with fail
     go_ret
     exact⟨aj HR.out.symm,HG2.out⟩
    |true =>
     have HR:=Lib.hid (bY.out rfl)
     have aN:=Lib.hid (HG2.out.alloc (.cells #[.func (.func 155) #[] #[]] 73))
     have HK:=Lib.hid (jL _ n s (.slice a l.length cap) l [155] [dV] (.slice (some ⟨w2.heap.size,0,none⟩) 1 1) (w2.alloc (.cells #[.func (.func 155) #[] #[]] 73)) (HX.out.later aN.out) (aA.ji (l:=[155]) (λ_=>rfl) (heap_alloc_new w2 _) rfl (by simp)) rfl (by decide) (λi hi hk hp w' hg=>by
      have hgw:=Mv.trans aN.out hg (λ_ e=>e.elim)
      have hm:=List.getElem_mem hk
      simp only[List.length_cons,List.length_nil]at hi
      skip
      obtain rfl:i=0:=by omega
      exact qE _ w' ((HX.out.row.2.2.2.2 _ hm).later hgw)))
     simp only[ae.val]at HK
     go_wp2_with fail
     refine HK.out.mono ?_
     rintro e w3 ⟨rfl,hg3⟩
     have aZ:=Lib.hid (Mv.trans aN.out hg3 (λ_ e=>e.elim))
     clear hg3
     go_wp2_with fail
     go_ret
     exact⟨aj HR.out.symm,aZ.out⟩
 have h46:k≠46:=by omega
 have h47:k≠47:=by omega
 have h48:k≠48:=by omega
 have Hw:k≠49:=by omega
 clear hG
 by_cases h50:k=50
 · subst h50
   have HG:=Lib.hid (show Grow w (w.alloc (.cells #[.int .u8 50,.int .i64 n,.string s,.slice a l.length cap] 26))from(Mv.refl _ _).alloc _)
   have HB:=Lib.hid (heap_alloc_new w (.cells #[.int .u8 50,.int .i64 n,.string s,.slice a l.length cap] 26))
   have cK:=Lib.hid (mJ 50 n s a l cap (w.alloc (.cells #[.int .u8 50,.int .i64 n,.string s,.slice a l.length cap] 26)) hs)
   have cO:=Lib.hid (show bu n s=false->aK (.mk 50 n s (ae.ts l))=false from λh=>by simp[aK,h])
   have bY:=Lib.hid (show bu n s=true->aK (.mk 50 n s (ae.ts l))=(decide (l.length<=8) && (ae.ts l).all iM)from λh=>by simp[aK,h,ae.lK])
   go_enter Tryz.func116,Tryz.ntmps116
   go_wp2_with fail
   refine cK.out.mono ?_
   rintro e w2 ⟨rfl,hg2⟩
   have HG2:=Lib.hid (Mv.trans HG.out hg2 (λ_ e=>e.elim))
   have hb2:=dU HB.out hg2
   obtain⟨m0,m1,m2,m3⟩:=eY hb2
   have hlb:=lt_of_block hb2
   clear hg2 hb2
   generalize bu n s=pb at *
   cases pb with
   |false =>
    have HR:=Lib.hid (cO.out rfl)
    go_wp2_with fail
    go_ret
    exact⟨aj HR.out.symm,HG2.out⟩
   |true =>
    by_cases h8:l.length<=8
    · have HR:=Lib.hid (show aK (.mk 50 n s (ae.ts l))=(ae.ts l).all iM from by rw[bY.out rfl];simp[h8])
      have HE:=Lib.hid (xm (.slice a l.length cap) l 158 iM w2 (HX.out.row.2.2.2.1.later HG2.out) (λx hx=>(HX.out.row.2.2.2.2 x hx).later HG2.out) (.inr rfl) (λx hx w' hg=>BO x w' ((HX.out.row.2.2.2.2 x hx).later (Mv.trans HG2.out hg (λ_ e=>e.elim)))))
      go_wp2_with fail
      refine HE.out.mono ?_
      rintro e w3 ⟨rfl,hg3⟩
      have aZ:=Lib.hid (Mv.trans HG2.out hg3 (λ_ e=>e.elim))
      clear hg3
      go_wp2_with fail
      go_ret
      exact⟨aj HR.out.symm,aZ.out⟩
    · have HR:=Lib.hid (show aK (.mk 50 n s (ae.ts l))=false from by rw[bY.out rfl];simp[h8])
      go_wp2_with fail
      go_ret
      exact⟨aj HR.out.symm,HG2.out⟩
 by_cases AQ:k=51
 · subst AQ
   have HG:=Lib.hid (show Grow w (w.alloc (.cells #[.int .u8 51,.int .i64 n,.string s,.slice a l.length cap] 26))from(Mv.refl _ _).alloc _)
   have HB:=Lib.hid (heap_alloc_new w (.cells #[.int .u8 51,.int .i64 n,.string s,.slice a l.length cap] 26))
   have cK:=Lib.hid (mJ 51 n s a l cap (w.alloc (.cells #[.int .u8 51,.int .i64 n,.string s,.slice a l.length cap] 26)) hs)
   have cO:=Lib.hid (show bu n s=false->aK (.mk 51 n s (ae.ts l))=false from λh=>by simp[aK,h])
   have bY:=Lib.hid (show bu n s=true->aK (.mk 51 n s (ae.ts l))=(decide (l.length<=8) && (ae.ts l).all iM)from λh=>by simp[aK,h,ae.lK])
   go_enter Tryz.func116,Tryz.ntmps116
   go_wp2_with fail
   refine cK.out.mono ?_
   rintro e w2 ⟨rfl,hg2⟩
   have HG2:=Lib.hid (Mv.trans HG.out hg2 (λ_ e=>e.elim))
   have hb2:=dU HB.out hg2
   obtain⟨m0,m1,m2,m3⟩:=eY hb2
   have hlb:=lt_of_block hb2
   clear hg2 hb2
   generalize bu n s=pb at *
   cases pb with
   |false =>
    have HR:=Lib.hid (cO.out rfl)
    go_wp2_with fail
    go_ret
    exact⟨aj HR.out.symm,HG2.out⟩
   |true =>
    by_cases h8:l.length<=8
    · have HR:=Lib.hid (show aK (.mk 51 n s (ae.ts l))=(ae.ts l).all iM from by rw[bY.out rfl];simp[h8])
      have HE:=Lib.hid (xm (.slice a l.length cap) l 158 iM w2 (HX.out.row.2.2.2.1.later HG2.out) (λx hx=>(HX.out.row.2.2.2.2 x hx).later HG2.out) (.inr rfl) (λx hx w' hg=>BO x w' ((HX.out.row.2.2.2.2 x hx).later (Mv.trans HG2.out hg (λ_ e=>e.elim)))))
      go_wp2_with fail
      refine HE.out.mono ?_
      rintro e w3 ⟨rfl,hg3⟩
      have aZ:=Lib.hid (Mv.trans HG2.out hg3 (λ_ e=>e.elim))
      clear hg3
      go_wp2_with fail
      go_ret
      exact⟨aj HR.out.symm,aZ.out⟩
    · have HR:=Lib.hid (show aK (.mk 51 n s (ae.ts l))=false from by rw[bY.out rfl];simp[h8])
      go_wp2_with fail
      go_ret
      exact⟨aj HR.out.symm,HG2.out⟩
 by_cases hG:k=52\/k=53
 · have HG:=Lib.hid (show Grow w (w.alloc (.cells #[.int .u8 k,.int .i64 n,.string s,.slice a l.length cap] 26))from(Mv.refl _ _).alloc _)
   have HB:=Lib.hid (heap_alloc_new w (.cells #[.int .u8 k,.int .i64 n,.string s,.slice a l.length cap] 26))
   have cK:=Lib.hid (mI k n s a l cap (w.alloc (.cells #[.int .u8 k,.int .i64 n,.string s,.slice a l.length cap] 26)))
   have cO:=Lib.hid (show aY n s=false->aK (.mk k n s (ae.ts l))=false from λh=>by rcases hG with rfl|rfl <;> simp[aK,h])
   have bY:=Lib.hid (show aY n s=true->aK (.mk k n s (ae.ts l))=aC [ax,dh,dh,ax] (ae.ts l)from λh=>by rcases hG with rfl|rfl <;> simp[aK,h,jM,jN,jO,jI,jP])
   rcases hG with rfl|rfl
   all_goals
    go_enter Tryz.func116,Tryz.ntmps116
    go_wp2_with fail
    refine cK.out.mono ?_
    rintro e w2 ⟨rfl,hg2⟩
    have HG2:=Lib.hid (Mv.trans HG.out hg2 (λ_ e=>e.elim))
    have hb2:=dU HB.out hg2
    obtain⟨m0,m1,m2,m3⟩:=eY hb2
    have hlb:=lt_of_block hb2
    clear hg2 hb2
    generalize aY n s=pb at *
    cases pb with
    |false =>
     have HR:=Lib.hid (cO.out rfl)
     go_wp2_with fail
     go_ret
     exact⟨aj HR.out.symm,HG2.out⟩
    |true =>
     have HR:=Lib.hid (bY.out rfl)
     have aN:=Lib.hid (HG2.out.alloc (.cells #[.func (.func 156) #[] #[],.func (.func 77) #[] #[],.func (.func 77) #[] #[],.func (.func 156) #[] #[]] 73))
     have HK:=Lib.hid (jL _ n s (.slice a l.length cap) l [156,77,77,156] [ax,dh,dh,ax] (.slice (some ⟨w2.heap.size,0,none⟩) 4 4) (w2.alloc (.cells #[.func (.func 156) #[] #[],.func (.func 77) #[] #[],.func (.func 77) #[] #[],.func (.func 156) #[] #[]] 73)) (HX.out.later aN.out) (aA.ji (l:=[156,77,77,156]) (λ_=>rfl) (heap_alloc_new w2 _) rfl (by simp)) rfl (by decide) (λi hi hk hp w' hg=>by
      have hgw:=Mv.trans aN.out hg (λ_ e=>e.elim)
      have hm:=List.getElem_mem hk
      simp only[List.length_cons,List.length_nil]at hi
      rcases Nat.lt_or_ge i 1 with h0|h0
      · obtain rfl:i=0:=by omega
        exact mK _ w' ((HX.out.row.2.2.2.2 _ hm).later hgw)
      rcases Nat.lt_or_ge i 2 with h1|h1
      · obtain rfl:i=1:=by omega
        exact wM.out _ hm w' hgw
      rcases Nat.lt_or_ge i 3 with h2|h2
      · obtain rfl:i=2:=by omega
        exact wM.out _ hm w' hgw
      skip
      obtain rfl:i=3:=by omega
      exact mK _ w' ((HX.out.row.2.2.2.2 _ hm).later hgw)))
     simp only[ae.val]at HK
     go_wp2_with fail
     refine HK.out.mono ?_
     rintro e w3 ⟨rfl,hg3⟩
     have aZ:=Lib.hid (Mv.trans aN.out hg3 (λ_ e=>e.elim))
     clear hg3
     go_wp2_with fail
     go_ret
     exact⟨aj HR.out.symm,aZ.out⟩
 have Hy:k≠52:=by omega
 have Hz:k≠53:=by omega
 clear hG
 by_cases AR:k=54
 · subst AR
   have HG:=Lib.hid (show Grow w (w.alloc (.cells #[.int .u8 54,.int .i64 n,.string s,.slice a l.length cap] 26))from(Mv.refl _ _).alloc _)
   have HB:=Lib.hid (heap_alloc_new w (.cells #[.int .u8 54,.int .i64 n,.string s,.slice a l.length cap] 26))
   have cK:=Lib.hid (mJ 54 n s a l cap (w.alloc (.cells #[.int .u8 54,.int .i64 n,.string s,.slice a l.length cap] 26)) hs)
   have cO:=Lib.hid (show bu n s=false->aK (.mk 54 n s (ae.ts l))=false from λh=>by simp[aK,h])
   have bY:=Lib.hid (show bu n s=true->aK (.mk 54 n s (ae.ts l))=aC [ax,dh,ax] (ae.ts l)from λh=>by simp[aK,h,jM,jN,jO,jI,jP])
   go_enter Tryz.func116,Tryz.ntmps116
   go_wp2_with fail
   refine cK.out.mono ?_
   rintro e w2 ⟨rfl,hg2⟩
   have HG2:=Lib.hid (Mv.trans HG.out hg2 (λ_ e=>e.elim))
   have hb2:=dU HB.out hg2
   obtain⟨m0,m1,m2,m3⟩:=eY hb2
   have hlb:=lt_of_block hb2
   clear hg2 hb2
   generalize bu n s=pb at *
   cases pb with
   |false =>
    have HR:=Lib.hid (cO.out rfl)
    go_wp2_with fail
    go_ret
    exact⟨aj HR.out.symm,HG2.out⟩
   |true =>
    have HR:=Lib.hid (bY.out rfl)
    have aN:=Lib.hid (HG2.out.alloc (.cells #[.func (.func 156) #[] #[],.func (.func 77) #[] #[],.func (.func 156) #[] #[]] 73))
    have HK:=Lib.hid (jL 54 n s (.slice a l.length cap) l [156,77,156] [ax,dh,ax] (.slice (some ⟨w2.heap.size,0,none⟩) 3 3) (w2.alloc (.cells #[.func (.func 156) #[] #[],.func (.func 77) #[] #[],.func (.func 156) #[] #[]] 73)) (HX.out.later aN.out) (aA.ji (l:=[156,77,156]) (λ_=>rfl) (heap_alloc_new w2 _) rfl (by simp)) rfl (by decide) (λi hi hk hp w' hg=>by
     have hgw:=Mv.trans aN.out hg (λ_ e=>e.elim)
     have hm:=List.getElem_mem hk
     simp only[List.length_cons,List.length_nil]at hi
     rcases Nat.lt_or_ge i 1 with h0|h0
     · obtain rfl:i=0:=by omega
       exact mK _ w' ((HX.out.row.2.2.2.2 _ hm).later hgw)
     rcases Nat.lt_or_ge i 2 with h1|h1
     · obtain rfl:i=1:=by omega
       exact wM.out _ hm w' hgw
     skip
     obtain rfl:i=2:=by omega
     exact mK _ w' ((HX.out.row.2.2.2.2 _ hm).later hgw)))
    simp only[ae.val]at HK
    go_wp2_with fail
    refine HK.out.mono ?_
    rintro e w3 ⟨rfl,hg3⟩
    have aZ:=Lib.hid (Mv.trans aN.out hg3 (λ_ e=>e.elim))
    clear hg3
    go_wp2_with fail
    go_ret
    exact⟨aj HR.out.symm,aZ.out⟩
 by_cases AU:k=55
 · subst AU
   have HG:=Lib.hid (show Grow w (w.alloc (.cells #[.int .u8 55,.int .i64 n,.string s,.slice a l.length cap] 26))from(Mv.refl _ _).alloc _)
   have HB:=Lib.hid (heap_alloc_new w (.cells #[.int .u8 55,.int .i64 n,.string s,.slice a l.length cap] 26))
   have cK:=Lib.hid (mJ 55 n s a l cap (w.alloc (.cells #[.int .u8 55,.int .i64 n,.string s,.slice a l.length cap] 26)) hs)
   have cO:=Lib.hid (show bu n s=false->aK (.mk 55 n s (ae.ts l))=false from λh=>by simp[aK,h])
   have bY:=Lib.hid (show bu n s=true->aK (.mk 55 n s (ae.ts l))=aC [dh] (ae.ts l)from λh=>by simp[aK,h,jM,jN,jO,jI,jP])
   go_enter Tryz.func116,Tryz.ntmps116
   go_wp2_with fail
   refine cK.out.mono ?_
   rintro e w2 ⟨rfl,hg2⟩
   have HG2:=Lib.hid (Mv.trans HG.out hg2 (λ_ e=>e.elim))
   have hb2:=dU HB.out hg2
   obtain⟨m0,m1,m2,m3⟩:=eY hb2
   have hlb:=lt_of_block hb2
   clear hg2 hb2
   generalize bu n s=pb at *
   cases pb with
   |false =>
    have HR:=Lib.hid (cO.out rfl)
    go_wp2_with fail
    go_ret
    exact⟨aj HR.out.symm,HG2.out⟩
   |true =>
    have HR:=Lib.hid (bY.out rfl)
    have aN:=Lib.hid (HG2.out.alloc (.cells #[.func (.func 77) #[] #[]] 73))
    have HK:=Lib.hid (jL 55 n s (.slice a l.length cap) l [77] [dh] (.slice (some ⟨w2.heap.size,0,none⟩) 1 1) (w2.alloc (.cells #[.func (.func 77) #[] #[]] 73)) (HX.out.later aN.out) (aA.ji (l:=[77]) (λ_=>rfl) (heap_alloc_new w2 _) rfl (by simp)) rfl (by decide) (λi hi hk hp w' hg=>by
     have hgw:=Mv.trans aN.out hg (λ_ e=>e.elim)
     have hm:=List.getElem_mem hk
     simp only[List.length_cons,List.length_nil]at hi
     skip
     obtain rfl:i=0:=by omega
     exact wM.out _ hm w' hgw))
    simp only[ae.val]at HK
    go_wp2_with fail
    refine HK.out.mono ?_
    rintro e w3 ⟨rfl,hg3⟩
    have aZ:=Lib.hid (Mv.trans aN.out hg3 (λ_ e=>e.elim))
    clear hg3
    go_wp2_with fail
    go_ret
    exact⟨aj HR.out.symm,aZ.out⟩
 have Qs:(k == 40)=false:=by simp;omega
 have Qt:(k == 41)=false:=by simp;omega
 have Qu:(k == 42)=false:=by simp;omega
 have Qv:(k == 43)=false:=by simp;omega
 have Qw:(k == 44)=false:=by simp;omega
 have Qx:(k == 45)=false:=by simp;omega
 have Qy:(k == 46)=false:=by simp;omega
 have Qz:(k == 47)=false:=by simp;omega
 have QA:(k == 48)=false:=by simp;omega
 have QB:(k == 49)=false:=by simp;omega
 have QC:(k == 50)=false:=by simp;omega
 have QD:(k == 51)=false:=by simp;omega
 have QE:(k == 52)=false:=by simp;omega
 have QF:(k == 53)=false:=by simp;omega
 have QG:(k == 54)=false:=by simp;omega
 have QH:(k == 55)=false:=by simp;omega
 have QI:(k == 56)=false:=by simp;omega
 have HG:=Lib.hid (show Grow w (w.alloc (.cells #[.int .u8 k,.int .i64 n,.string s,.slice a l.length cap] 26))from(Mv.refl _ _).alloc _)
 have HR:=Lib.hid (show aK (.mk k n s (ae.ts l))=false from by simp[aK,Ho,Hq,Hr,h43,Hu,h45,h46,h47,h48,Hw,h50,AQ,Hy,Hz,AR,AU,Ht])
 clear Ho Hq Hr h43 Hu h45 h46 h47 h48 Hw h50 AQ Hy Hz AR AU Ht
 go_enter Tryz.func116,Tryz.ntmps116
 go_wp2_with fail
 go_ret
 exact⟨aj HR.out.symm,HG.out⟩
end Go.Proofs.YtadecgbblajifaaGreatDoor
