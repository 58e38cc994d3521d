import Derived.Test.YtadecgbblajifaaGreatDoorE24
set_option linter.unusedSimpArgs false
set_option linter.unusedVariables false
set_option maxRecDepth 100000
set_option maxHeartbeats 25600000
namespace Go.Proofs.YtadecgbblajifaaGreatDoor
open Go.RowKit Go.Instr
theorem pF (l:List Tree):aV [aG] l=(l.length == 1 && si l):=by
 match l with
 | []=>rfl
 | [t]=>simp[aV,si]
 |_ :: _ :: _=>simp[aV]
theorem pG (l:List Tree):aV [aG,aG] l=(l.length == 2 && si l):=by
 match l with
 | []=>rfl
 | [t]=>simp[aV]
 | [t,u]=>simp[aV,si]
 |_ :: _ :: _ :: _=>simp[aV]
theorem pJ (l:List Tree):aV [aG,gB,gB,aG] l=(aV [aG,λ_=>true,λ_=>true,aG] l && ((ng l)[1]?.getD false && (ng l)[2]?.getD false)):=by
 match l with
 | []=>rfl
 | [_]=>simp[aV]
 | [_,_]=>simp[aV]
 | [_,_,_]=>simp[aV]
 | [a,b,c,d] =>
  simp only[aV,Jf,List.map_cons,List.map_nil,List.getElem?_cons_succ,List.getElem?_cons_zero,Option.getD_some,Bool.and_true,Bool.true_and]
  cases aG a <;> cases gB b <;> cases gB c <;> cases aG d <;> rfl
 |_ :: _ :: _ :: _ :: _ :: _=>simp[aV]
theorem o9 (l:List Tree):aV [aG,gB,aG] l=(aV [aG,λ_=>true,aG] l && (ng l)[1]?.getD false):=by
 match l with
 | []=>rfl
 | [_]=>simp[aV]
 | [_,_]=>simp[aV]
 | [a,b,c] =>
  simp only[aV,Jf,List.map_cons,List.map_nil,List.getElem?_cons_succ,List.getElem?_cons_zero,Option.getD_some,Bool.and_true,Bool.true_and]
  cases aG a <;> cases gB b <;> cases aG c <;> rfl
 |_ :: _ :: _ :: _ :: _=>simp[aV]
theorem pK (l:List Tree):aV [gB] l=(l.length == 1 && (ng l)[0]?.getD false):=by
 match l with
 | []=>rfl
 | [t]=>simp[aV,Jf]
 |_ :: _ :: _=>simp[aV]
set_option maxRecDepth 100000 in
set_option maxHeartbeats 3200000 in
theorem Yq:∀ (m:Nat) (x:aa),SizeOf.sizeOf x<=m->∀ w:World,fJ w x->Calls Tryz.prog 156 #[x.val] w (jG w (aG x.t)):=by
 intro m
 induction m with
 |zero=>intro x hm;cases x;simp at hm
 |succ m ih =>
  intro x hm w hx
  obtain⟨k,n,s,kv,l⟩:=x
  obtain⟨a,cap,rfl,hcap,hlen⟩:=hx.form
  obtain⟨hk1,hk2⟩:=hx.row.1
  have hs:=hx.row.2.2.1
  have HX:=Lib.hid hx
  have kJ:=Lib.hid (λ(y:aa) (hy:y∈l) (w':World) (hg:Grow w w')=>ih y (by have:=xL (k:=k) (n:=n) (s:=s) (kv := .slice a l.length cap) hy;omega) w' ((hx.row.2.2.2.2 y hy).later hg))
  clear ih hm hx
  simp only[aa.val,aa.t]
  by_cases h1:k=1
  · subst h1
    have HG:=Lib.hid (show Grow w (w.alloc (.cells #[.int .u8 1,.int .i64 n,.string s,.slice a l.length cap] 26))from(Mv.refl _ _).alloc _)
    by_cases hn0:0<=n
    · by_cases hs0:s.size=0
      · have hemp:=Nq hs0
        cases l with
        |nil =>
         have HR:=Lib.hid (show aG (.mk 1 n s (aa.ts []))=true from by simp[aG,hn0,hs0,aa.ts])
         simp only[List.length_nil]at HG ⊢
         clear hs0
         go_enter Tryz.func156,Tryz.ntmps156
         go_wp2_with fail
         go_ret
         exact⟨ax HR.out.symm,HG.out⟩
        |cons x r =>
         have HR:=Lib.hid (show aG (.mk 1 n s (aa.ts (x :: r)))=false from by simp[aG,aa.ts])
         have hl1:((r.length+1:Nat) == 0)=false:=by simp
         simp only[List.length_cons]at HG ⊢
         clear hs0
         go_enter Tryz.func156,Tryz.ntmps156
         go_wp2_with fail
         go_ret
         exact⟨ax HR.out.symm,HG.out⟩
      · have hne:=xK (s:=s) (by omega)
        have HR:=Lib.hid (show aG (.mk 1 n s (aa.ts l))=false from by simp[aG,hs0])
        clear hs0
        go_enter Tryz.func156,Tryz.ntmps156
        go_wp2_with fail
        go_ret
        exact⟨ax HR.out.symm,HG.out⟩
    · have HR:=Lib.hid (show aG (.mk 1 n s (aa.ts l))=false from by simp[aG,hn0])
      go_enter Tryz.func156,Tryz.ntmps156
      go_wp2_with fail
      go_ret
      exact⟨ax HR.out.symm,HG.out⟩
  by_cases hG:k=2\/k=4\/k=5
  · have HG:=Lib.hid (show Grow w (w.alloc (.cells #[.int .u8 k,.int .i64 n,.string s,.slice a l.length cap] 26))from(Mv.refl _ _).alloc _)
    have HB:=Lib.hid (heap_alloc_new w (.cells #[.int .u8 k,.int .i64 n,.string s,.slice a l.length cap] 26))
    have fM:=Lib.hid (u6 k n s a l cap (w.alloc (.cells #[.int .u8 k,.int .i64 n,.string s,.slice a l.length cap] 26)) hs)
    have fO:=Lib.hid (show dZ n s=false->aG (.mk k n s (aa.ts l))=false from λh=>by rcases hG with rfl|rfl|rfl <;> simp[aG,h])
    have dY:=Lib.hid (show dZ n s=true->aG (.mk k n s (aa.ts l))=l.isEmpty from λh=>by rcases hG with rfl|rfl|rfl <;> simp[aG,h,aa.jd])
    rcases hG with rfl|rfl|rfl
    all_goals
     go_enter Tryz.func156,Tryz.ntmps156
     go_wp2_with fail
     refine fM.out.mono ?_
     rintro e w2 ⟨rfl,hg2⟩
     have HG2:=Lib.hid (Mv.trans HG.out hg2 (λ_ e=>e.elim))
     have hb2:=aJ HB.out hg2
     obtain⟨m0,m1,m2,m3⟩:=gu hb2
     have hlb:=lt_of_block hb2
     clear hg2 hb2
     generalize dZ n s=pb at *
     cases pb with
     |false =>
      have HR:=Lib.hid (fO.out rfl)
      go_wp2_with fail
      go_ret
      exact⟨ax HR.out.symm,HG2.out⟩
     |true =>
      have HR:=Lib.hid (dY.out rfl)
      cases l with
      |nil =>
       simp only[List.length_nil]at m3 ⊢
       go_wp2_with fail
       go_ret
       exact⟨ax HR.out.symm,HG2.out⟩
      |cons x r =>
       have hl1:((r.length+1:Nat) == 0)=false:=by simp
       simp only[List.length_cons]at m3 ⊢
       go_wp2_with fail
       go_ret
       exact⟨ax HR.out.symm,HG2.out⟩
  have h2:k≠2:=by omega
  have h4:k≠4:=by omega
  have h5:k≠5:=by omega
  clear hG
  by_cases h3:k=3
  · subst h3
    have HG:=Lib.hid (show Grow w (w.alloc (.cells #[.int .u8 3,.int .i64 n,.string s,.slice a l.length cap] 26))from(Mv.refl _ _).alloc _)
    have HB:=Lib.hid (heap_alloc_new w (.cells #[.int .u8 3,.int .i64 n,.string s,.slice a l.length cap] 26))
    have fM:=Lib.hid (u6 3 n s a l cap (w.alloc (.cells #[.int .u8 3,.int .i64 n,.string s,.slice a l.length cap] 26)) hs)
    have fO:=Lib.hid (show dZ n s=false->aG (.mk 3 n s (aa.ts l))=false from λh=>by simp[aG,h])
    have dY:=Lib.hid (show dZ n s=true->aG (.mk 3 n s (aa.ts l))=aV [aG] (aa.ts l)from λh=>by simp[aG,h,pF,pG,pJ,o9,pK])
    go_enter Tryz.func156,Tryz.ntmps156
    go_wp2_with fail
    refine fM.out.mono ?_
    rintro e w2 ⟨rfl,hg2⟩
    have HG2:=Lib.hid (Mv.trans HG.out hg2 (λ_ e=>e.elim))
    have hb2:=aJ HB.out hg2
    obtain⟨m0,m1,m2,m3⟩:=gu hb2
    have hlb:=lt_of_block hb2
    clear hg2 hb2
    generalize dZ n s=pb at *
    cases pb with
    |false =>
     have HR:=Lib.hid (fO.out rfl)
     go_wp2_with fail
     go_ret
     exact⟨ax HR.out.symm,HG2.out⟩
    |true =>
     have HR:=Lib.hid (dY.out rfl)
     have aK:=Lib.hid (HG2.out.alloc (.cells #[.func (.func 156) #[] #[]] 73))
     have HK:=Lib.hid (pE 3 n s (.slice a l.length cap) l [156] [aG] (.slice (some ⟨w2.heap.size,0,none⟩) 1 1) (w2.alloc (.cells #[.func (.func 156) #[] #[]] 73)) (HX.out.later aK.out) (aB.gW (l:=[156]) (λ_=>rfl) (heap_alloc_new w2 _) rfl (by simp)) rfl (by decide) (λi hi hk hp w' hg=>by
      have hgw:=Mv.trans aK.out hg (λ_ e=>e.elim)
      have hm:=List.getElem_mem hk
      simp only[List.length_cons,List.length_nil]at hi
      skip
      obtain rfl:i=0:=by omega
      exact kJ.out _ hm w' hgw))
     simp only[aa.val]at HK
     go_wp2_with fail
     refine HK.out.mono ?_
     rintro e w3 ⟨rfl,hg3⟩
     have cu:=Lib.hid (Mv.trans aK.out hg3 (λ_ e=>e.elim))
     clear hg3
     go_wp2_with fail
     go_ret
     exact⟨ax HR.out.symm,cu.out⟩
  by_cases hG:k=6\/k=7
  · have HG:=Lib.hid (show Grow w (w.alloc (.cells #[.int .u8 k,.int .i64 n,.string s,.slice a l.length cap] 26))from(Mv.refl _ _).alloc _)
    have HB:=Lib.hid (heap_alloc_new w (.cells #[.int .u8 k,.int .i64 n,.string s,.slice a l.length cap] 26))
    have fM:=Lib.hid (uZ k n s a l cap (w.alloc (.cells #[.int .u8 k,.int .i64 n,.string s,.slice a l.length cap] 26)))
    have fO:=Lib.hid (show dO n s=false->aG (.mk k n s (aa.ts l))=false from λh=>by rcases hG with rfl|rfl <;> simp[aG,h])
    have dY:=Lib.hid (show dO n s=true->aG (.mk k n s (aa.ts l))=aV [aG] (aa.ts l)from λh=>by rcases hG with rfl|rfl <;> simp[aG,h,pF,pG,pJ,o9,pK])
    rcases hG with rfl|rfl
    all_goals
     go_enter Tryz.func156,Tryz.ntmps156
     go_wp2_with fail
     refine fM.out.mono ?_
     rintro e w2 ⟨rfl,hg2⟩
     have HG2:=Lib.hid (Mv.trans HG.out hg2 (λ_ e=>e.elim))
     have hb2:=aJ HB.out hg2
     obtain⟨m0,m1,m2,m3⟩:=gu hb2
     have hlb:=lt_of_block hb2
     clear hg2 hb2
     generalize dO n s=pb at *
     cases pb with
     |false =>
      have HR:=Lib.hid (fO.out rfl)
      go_wp2_with fail
      go_ret
      exact⟨ax HR.out.symm,HG2.out⟩
     |true =>
      have HR:=Lib.hid (dY.out rfl)
      have aK:=Lib.hid (HG2.out.alloc (.cells #[.func (.func 156) #[] #[]] 73))
      have HK:=Lib.hid (pE _ n s (.slice a l.length cap) l [156] [aG] (.slice (some ⟨w2.heap.size,0,none⟩) 1 1) (w2.alloc (.cells #[.func (.func 156) #[] #[]] 73)) (HX.out.later aK.out) (aB.gW (l:=[156]) (λ_=>rfl) (heap_alloc_new w2 _) rfl (by simp)) rfl (by decide) (λi hi hk hp w' hg=>by
       have hgw:=Mv.trans aK.out hg (λ_ e=>e.elim)
       have hm:=List.getElem_mem hk
       simp only[List.length_cons,List.length_nil]at hi
       skip
       obtain rfl:i=0:=by omega
       exact kJ.out _ hm w' hgw))
      simp only[aa.val]at HK
      go_wp2_with fail
      refine HK.out.mono ?_
      rintro e w3 ⟨rfl,hg3⟩
      have cu:=Lib.hid (Mv.trans aK.out hg3 (λ_ e=>e.elim))
      clear hg3
      go_wp2_with fail
      go_ret
      exact⟨ax HR.out.symm,cu.out⟩
  have h6:k≠6:=by omega
  have h7:k≠7:=by omega
  clear hG
  by_cases hrange:8<=k/\k<=23
  · obtain⟨h8,h23⟩:=hrange
    have hr1:(k == 1)=false:=by simp;omega
    have hr2:(k == 2)=false:=by simp;omega
    have hr4:(k == 4)=false:=by simp;omega
    have Mk:(k == 5)=false:=by simp;omega
    have hr3:(k == 3)=false:=by simp;omega
    have hr6:(k == 6)=false:=by simp;omega
    have Gy:(k == 7)=false:=by simp;omega
    have HG:=Lib.hid (show Grow w (w.alloc (.cells #[.int .u8 k,.int .i64 n,.string s,.slice a l.length cap] 26))from(Mv.refl _ _).alloc _)
    have HB:=Lib.hid (heap_alloc_new w (.cells #[.int .u8 k,.int .i64 n,.string s,.slice a l.length cap] 26))
    have fM:=Lib.hid (uZ k n s a l cap (w.alloc (.cells #[.int .u8 k,.int .i64 n,.string s,.slice a l.length cap] 26)))
    have fO:=Lib.hid (show dO n s=false->aG (.mk k n s (aa.ts l))=false from λh=>by simp[aG,h,show ¬ k=1 from by omega,show ¬ k=2 from by omega,show ¬ k=4 from by omega,show ¬ k=5 from by omega,show ¬ k=3 from by omega,show ¬ k=6 from by omega,show ¬ k=7 from by omega,h8,h23])
    have dY:=Lib.hid (show dO n s=true->aG (.mk k n s (aa.ts l))=aV [aG,aG] (aa.ts l)from λh=>by simp[aG,h,pF,pG,pJ,o9,pK,show ¬ k=1 from by omega,show ¬ k=2 from by omega,show ¬ k=4 from by omega,show ¬ k=5 from by omega,show ¬ k=3 from by omega,show ¬ k=6 from by omega,show ¬ k=7 from by omega,h8,h23])
    go_enter Tryz.func156,Tryz.ntmps156
    go_wp2_with fail
    refine fM.out.mono ?_
    rintro e w2 ⟨rfl,hg2⟩
    have HG2:=Lib.hid (Mv.trans HG.out hg2 (λ_ e=>e.elim))
    have hb2:=aJ HB.out hg2
    obtain⟨m0,m1,m2,m3⟩:=gu hb2
    have hlb:=lt_of_block hb2
    clear hg2 hb2
    generalize dO n s=pb at *
    cases pb with
    |false =>
     have HR:=Lib.hid (fO.out rfl)
     go_wp2_with fail
     go_ret
     exact⟨ax HR.out.symm,HG2.out⟩
    |true =>
     have HR:=Lib.hid (dY.out rfl)
     have aK:=Lib.hid (HG2.out.alloc (.cells #[.func (.func 156) #[] #[],.func (.func 156) #[] #[]] 73))
     have HK:=Lib.hid (pE k n s (.slice a l.length cap) l [156,156] [aG,aG] (.slice (some ⟨w2.heap.size,0,none⟩) 2 2) (w2.alloc (.cells #[.func (.func 156) #[] #[],.func (.func 156) #[] #[]] 73)) (HX.out.later aK.out) (aB.gW (l:=[156,156]) (λ_=>rfl) (heap_alloc_new w2 _) rfl (by simp)) rfl (by decide) (λi hi hk hp w' hg=>by
      have hgw:=Mv.trans aK.out hg (λ_ e=>e.elim)
      have hm:=List.getElem_mem hk
      simp only[List.length_cons,List.length_nil]at hi
      rcases Nat.lt_or_ge i 1 with h0|h0
      · obtain rfl:i=0:=by omega
        exact kJ.out _ hm w' hgw
      skip
      obtain rfl:i=1:=by omega
      exact kJ.out _ hm w' hgw))
     simp only[aa.val]at HK
     go_wp2_with fail
     refine HK.out.mono ?_
     rintro e w3 ⟨rfl,hg3⟩
     have cu:=Lib.hid (Mv.trans aK.out hg3 (λ_ e=>e.elim))
     clear hg3
     go_wp2_with fail
     go_ret
     exact⟨ax HR.out.symm,cu.out⟩
  · 
    have hr1:(k == 1)=false:=by simp;omega
    have hr2:(k == 2)=false:=by simp;omega
    have hr4:(k == 4)=false:=by simp;omega
    have Mk:(k == 5)=false:=by simp;omega
    have hr3:(k == 3)=false:=by simp;omega
    have hr6:(k == 6)=false:=by simp;omega
    have Gy:(k == 7)=false:=by simp;omega
    have HG:=Lib.hid (show Grow w (w.alloc (.cells #[.int .u8 k,.int .i64 n,.string s,.slice a l.length cap] 26))from(Mv.refl _ _).alloc _)
    have HR:=Lib.hid (show aG (.mk k n s (aa.ts l))=false from by simp[aG,show ¬ k=1 from by omega,show ¬ k=2 from by omega,show ¬ k=4 from by omega,show ¬ k=5 from by omega,show ¬ k=3 from by omega,show ¬ k=6 from by omega,show ¬ k=7 from by omega,hrange])
    rcases Nat.lt_or_ge k.toNat 8 with hq|hq
    · have hq1:k<8:=by omega
      go_enter Tryz.func156,Tryz.ntmps156
      go_wp2_with fail
      go_ret
      exact⟨ax HR.out.symm,HG.out⟩
    · have hq1:8<=k:=by omega
      have hq2:23<k:=by omega
      go_enter Tryz.func156,Tryz.ntmps156
      go_wp2_with fail
      go_ret
      exact⟨ax HR.out.symm,HG.out⟩
theorem u7 (x:aa) (w:World) (h:fJ w x):Calls Tryz.prog 156 #[x.val] w (jG w (aG x.t)):=Yq _ x (Nat.le_refl _) w h
set_option maxRecDepth 100000 in
set_option maxHeartbeats 1600000 in
theorem Ac (x:aa) (w:World) (hx:fJ w x):Calls Tryz.prog 155 #[x.val] w (jG w (iM x.t)):=by
 obtain⟨k,n,s,kv,l⟩:=x
 obtain⟨a,cap,rfl,hcap,hlen⟩:=hx.form
 obtain⟨hk1,hk2⟩:=hx.row.1
 have HG:=Lib.hid (show Grow w (w.alloc (.cells #[.int .u8 k,.int .i64 n,.string s,.slice a l.length cap] 26))from(Mv.refl _ _).alloc _)
 have HE:=Lib.hid (u7 (.mk k n s (.slice a l.length cap) l) (w.alloc (.cells #[.int .u8 k,.int .i64 n,.string s,.slice a l.length cap] 26)) (hx.later HG.out))
 simp only[aa.val,aa.t]at HE ⊢
 clear hx
 by_cases hk:k=2\/k=3
 · have HR:=Lib.hid (show iM (.mk k n s (aa.ts l))=aG (.mk k n s (aa.ts l))from by rcases hk with rfl|rfl <;> simp[iM,Tree.kind])
   generalize aG (.mk k n s (aa.ts l))=bv at *
   rcases hk with rfl|rfl
   all_goals
    go_enter Tryz.func155,Tryz.ntmps155
    go_wp2_with fail
    refine HE.out.mono ?_
    rintro e w2 ⟨rfl,hg2⟩
    have HG2:=Lib.hid (Mv.trans HG.out hg2 (λ_ e=>e.elim))
    clear hg2
    go_wp2_with fail
    go_ret
    exact⟨ax HR.out.symm,HG2.out⟩
 · have hr2:(k == 2)=false:=(by simp <;> omega);have hr3:(k == 3)=false:=(by simp <;> omega)
   have HR:=Lib.hid (show iM (.mk k n s (aa.ts l))=false from by simp[iM,Tree.kind,show ¬ k=2 from by omega,show ¬ k=3 from by omega])
   go_enter Tryz.func155,Tryz.ntmps155
   go_wp2_with fail
   go_ret
   exact⟨ax HR.out.symm,HG.out⟩
set_option maxRecDepth 100000 in
set_option maxHeartbeats 1600000 in
theorem Ot (x:aa) (w:World) (hx:fJ w x):Calls Tryz.prog 158 #[x.val] w (jG w (mJ x.t)):=by
 obtain⟨k,n,s,kv,l⟩:=x
 obtain⟨a,cap,rfl,hcap,hlen⟩:=hx.form
 obtain⟨hk1,hk2⟩:=hx.row.1
 have HG:=Lib.hid (show Grow w (w.alloc (.cells #[.int .u8 k,.int .i64 n,.string s,.slice a l.length cap] 26))from(Mv.refl _ _).alloc _)
 have HE:=Lib.hid (u7 (.mk k n s (.slice a l.length cap) l) (w.alloc (.cells #[.int .u8 k,.int .i64 n,.string s,.slice a l.length cap] 26)) (hx.later HG.out))
 simp only[aa.val,aa.t]at HE ⊢
 clear hx
 by_cases hk:k=2
 · have HR:=Lib.hid (show mJ (.mk k n s (aa.ts l))=aG (.mk k n s (aa.ts l))from by rcases hk with rfl <;> simp[mJ,Tree.kind])
   generalize aG (.mk k n s (aa.ts l))=bv at *
   rcases hk with rfl
   all_goals
    go_enter Tryz.func158,Tryz.ntmps158
    go_wp2_with fail
    refine HE.out.mono ?_
    rintro e w2 ⟨rfl,hg2⟩
    have HG2:=Lib.hid (Mv.trans HG.out hg2 (λ_ e=>e.elim))
    clear hg2
    go_wp2_with fail
    go_ret
    exact⟨ax HR.out.symm,HG2.out⟩
 · have hr2:(k == 2)=false:=(by simp <;> omega)
   have HR:=Lib.hid (show mJ (.mk k n s (aa.ts l))=false from by simp[mJ,Tree.kind,show ¬ k=2 from by omega])
   go_enter Tryz.func158,Tryz.ntmps158
   go_wp2_with fail
   go_ret
   exact⟨ax HR.out.symm,HG.out⟩
def Pj (m:Nat):Prop:=∀ (x:aa),SizeOf.sizeOf x<=m->∀ w:World,fJ w x->Calls Tryz.prog 116 #[x.val] w (jG w (bI x.t))
def Ou (m:Nat):Prop:=∀ (x:aa),SizeOf.sizeOf x<=m->∀ w:World,fJ w x->Calls Tryz.prog 77 #[x.val] w (jG w (gB x.t))
set_option maxRecDepth 100000 in
set_option maxHeartbeats 1600000 in
theorem af6 (m:Nat) (ih:Pj m):Ou (m+1):=by
 intro x hm w hx
 obtain⟨k,n,s,kv,l⟩:=x
 obtain⟨a,cap,rfl,hcap,hlen⟩:=hx.form
 obtain⟨hk1,hk2⟩:=hx.row.1
 have HIS:=Lib.hid (λ(y:aa) (hy:y∈l) (w':World) (hg:Grow w w')=>ih y (by have:=xL (k:=k) (n:=n) (s:=s) (kv := .slice a l.length cap) hy;omega) w' ((hx.row.2.2.2.2 y hy).later hg))
 have HX:=Lib.hid hx
 clear ih hm hx
 simp only[aa.val,aa.t]
 by_cases h57:k=57
 · subst h57
   have HG:=Lib.hid (show Grow w (w.alloc (.cells #[.int .u8 57,.int .i64 n,.string s,.slice a l.length cap] 26))from(Mv.refl _ _).alloc _)
   have HB:=Lib.hid (heap_alloc_new w (.cells #[.int .u8 57,.int .i64 n,.string s,.slice a l.length cap] 26))
   have fM:=Lib.hid (uZ 57 n s a l cap (w.alloc (.cells #[.int .u8 57,.int .i64 n,.string s,.slice a l.length cap] 26)))
   have fO:=Lib.hid (show dO n s=false->gB (.mk 57 n s (aa.ts l))=false from λh=>by simp[gB,h])
   have dY:=Lib.hid (show dO n s=true->gB (.mk 57 n s (aa.ts l))=(aa.ts l).all bI from λh=>by simp[gB,h,Yp])
   go_enter Tryz.func77,Tryz.ntmps77
   go_wp2_with fail
   refine fM.out.mono ?_
   rintro e w2 ⟨rfl,hg2⟩
   have HG2:=Lib.hid (Mv.trans HG.out hg2 (λ_ e=>e.elim))
   have hb2:=aJ HB.out hg2
   obtain⟨m0,m1,m2,m3⟩:=gu hb2
   have hlb:=lt_of_block hb2
   clear hg2 hb2
   generalize dO n s=pb at *
   cases pb with
   |false =>
    have HR:=Lib.hid (fO.out rfl)
    go_wp2_with fail
    go_ret
    exact⟨ax HR.out.symm,HG2.out⟩
   |true =>
    have HR:=Lib.hid (dY.out rfl)
    have HE:=Lib.hid (Iu (.slice a l.length cap) l 116 bI w2 (HX.out.row.2.2.2.1.later HG2.out) (λx hx=>(HX.out.row.2.2.2.2 x hx).later HG2.out) (.inl rfl) (λx hx w' hg=>HIS.out x hx w' (Mv.trans HG2.out hg (λ_ e=>e.elim))))
    go_wp2_with fail
    refine HE.out.mono ?_
    rintro e w3 ⟨rfl,hg3⟩
    have cu:=Lib.hid (Mv.trans HG2.out hg3 (λ_ e=>e.elim))
    clear hg3
    go_wp2_with fail
    go_ret
    exact⟨ax HR.out.symm,cu.out⟩
 · have agQ:(k == 57)=false:=by simpa using h57
   have HG:=Lib.hid (show Grow w (w.alloc (.cells #[.int .u8 k,.int .i64 n,.string s,.slice a l.length cap] 26))from(Mv.refl _ _).alloc _)
   have HR:=Lib.hid (show gB (.mk k n s (aa.ts l))=false from by simp[gB,h57])
   go_enter Tryz.func77,Tryz.ntmps77
   go_wp2_with fail
   go_ret
   exact⟨ax HR.out.symm,HG.out⟩
set_option maxRecDepth 100000 in
set_option maxHeartbeats 6400000 in
theorem af8 (m:Nat) (ih:Ou m):Pj (m+1):=by
 intro x hm w hx
 obtain⟨k,n,s,kv,l⟩:=x
 obtain⟨a,cap,rfl,hcap,hlen⟩:=hx.form
 obtain⟨hk1,hk2⟩:=hx.row.1
 have hs:=hx.row.2.2.1
 have HX:=Lib.hid hx
 have uL:=Lib.hid (λ(y:aa) (hy:y∈l) (w':World) (hg:Grow w w')=>ih y (by have:=xL (k:=k) (n:=n) (s:=s) (kv := .slice a l.length cap) hy;omega) w' ((hx.row.2.2.2.2 y hy).later hg))
 clear ih hm hx
 simp only[aa.val,aa.t]
 by_cases hG:k=40\/k=41\/k=42\/k=56
 · have HG:=Lib.hid (show Grow w (w.alloc (.cells #[.int .u8 k,.int .i64 n,.string s,.slice a l.length cap] 26))from(Mv.refl _ _).alloc _)
   have HB:=Lib.hid (heap_alloc_new w (.cells #[.int .u8 k,.int .i64 n,.string s,.slice a l.length cap] 26))
   have fM:=Lib.hid (uZ k n s a l cap (w.alloc (.cells #[.int .u8 k,.int .i64 n,.string s,.slice a l.length cap] 26)))
   have fO:=Lib.hid (show dO n s=false->bI (.mk k n s (aa.ts l))=false from λh=>by rcases hG with rfl|rfl|rfl|rfl <;> simp[bI,h])
   have dY:=Lib.hid (show dO n s=true->bI (.mk k n s (aa.ts l))=aV [iM,aG] (aa.ts l)from λh=>by rcases hG with rfl|rfl|rfl|rfl <;> simp[bI,h,pF,pG,pJ,o9,pK])
   rcases hG with rfl|rfl|rfl|rfl
   all_goals
    go_enter Tryz.func116,Tryz.ntmps116
    go_wp2_with fail
    refine fM.out.mono ?_
    rintro e w2 ⟨rfl,hg2⟩
    have HG2:=Lib.hid (Mv.trans HG.out hg2 (λ_ e=>e.elim))
    have hb2:=aJ HB.out hg2
    obtain⟨m0,m1,m2,m3⟩:=gu hb2
    have hlb:=lt_of_block hb2
    clear hg2 hb2
    generalize dO n s=pb at *
    cases pb with
    |false =>
     have HR:=Lib.hid (fO.out rfl)
     go_wp2_with fail
     go_ret
     exact⟨ax HR.out.symm,HG2.out⟩
    |true =>
     have HR:=Lib.hid (dY.out rfl)
     have aK:=Lib.hid (HG2.out.alloc (.cells #[.func (.func 155) #[] #[],.func (.func 156) #[] #[]] 73))
     have HK:=Lib.hid (pE _ n s (.slice a l.length cap) l [155,156] [iM,aG] (.slice (some ⟨w2.heap.size,0,none⟩) 2 2) (w2.alloc (.cells #[.func (.func 155) #[] #[],.func (.func 156) #[] #[]] 73)) (HX.out.later aK.out) (aB.gW (l:=[155,156]) (λ_=>rfl) (heap_alloc_new w2 _) rfl (by simp)) rfl (by decide) (λi hi hk hp w' hg=>by
      have hgw:=Mv.trans aK.out hg (λ_ e=>e.elim)
      have hm:=List.getElem_mem hk
      simp only[List.length_cons,List.length_nil]at hi
      rcases Nat.lt_or_ge i 1 with h0|h0
      · obtain rfl:i=0:=by omega
        exact Ac _ w' ((HX.out.row.2.2.2.2 _ hm).later hgw)
      skip
      obtain rfl:i=1:=by omega
      exact u7 _ w' ((HX.out.row.2.2.2.2 _ hm).later hgw)))
     simp only[aa.val]at HK
     go_wp2_with fail
     refine HK.out.mono ?_
     rintro e w3 ⟨rfl,hg3⟩
     have cu:=Lib.hid (Mv.trans aK.out hg3 (λ_ e=>e.elim))
     clear hg3
     go_wp2_with fail
     go_ret
     exact⟨ax HR.out.symm,cu.out⟩
 have VT:k≠40:=by omega
 have VU:k≠41:=by omega
 have VV:k≠42:=by omega
 have VW:k≠56:=by omega
 clear hG
 by_cases h43:k=43
 · subst h43
   have HG:=Lib.hid (show Grow w (w.alloc (.cells #[.int .u8 43,.int .i64 n,.string s,.slice a l.length cap] 26))from(Mv.refl _ _).alloc _)
   have HB:=Lib.hid (heap_alloc_new w (.cells #[.int .u8 43,.int .i64 n,.string s,.slice a l.length cap] 26))
   have fM:=Lib.hid (uZ 43 n s a l cap (w.alloc (.cells #[.int .u8 43,.int .i64 n,.string s,.slice a l.length cap] 26)))
   have fO:=Lib.hid (show dO n s=false->bI (.mk 43 n s (aa.ts l))=false from λh=>by simp[bI,h])
   have dY:=Lib.hid (show dO n s=true->bI (.mk 43 n s (aa.ts l))=aV [iM,iM] (aa.ts l)from λh=>by simp[bI,h,pF,pG,pJ,o9,pK])
   go_enter Tryz.func116,Tryz.ntmps116
   go_wp2_with fail
   refine fM.out.mono ?_
   rintro e w2 ⟨rfl,hg2⟩
   have HG2:=Lib.hid (Mv.trans HG.out hg2 (λ_ e=>e.elim))
   have hb2:=aJ HB.out hg2
   obtain⟨m0,m1,m2,m3⟩:=gu hb2
   have hlb:=lt_of_block hb2
   clear hg2 hb2
   generalize dO n s=pb at *
   cases pb with
   |false =>
    have HR:=Lib.hid (fO.out rfl)
    go_wp2_with fail
    go_ret
    exact⟨ax HR.out.symm,HG2.out⟩
   |true =>
    have HR:=Lib.hid (dY.out rfl)
    have aK:=Lib.hid (HG2.out.alloc (.cells #[.func (.func 155) #[] #[],.func (.func 155) #[] #[]] 73))
    have HK:=Lib.hid (pE 43 n s (.slice a l.length cap) l [155,155] [iM,iM] (.slice (some ⟨w2.heap.size,0,none⟩) 2 2) (w2.alloc (.cells #[.func (.func 155) #[] #[],.func (.func 155) #[] #[]] 73)) (HX.out.later aK.out) (aB.gW (l:=[155,155]) (λ_=>rfl) (heap_alloc_new w2 _) rfl (by simp)) rfl (by decide) (λi hi hk hp w' hg=>by
     have hgw:=Mv.trans aK.out hg (λ_ e=>e.elim)
     have hm:=List.getElem_mem hk
     simp only[List.length_cons,List.length_nil]at hi
     rcases Nat.lt_or_ge i 1 with h0|h0
     · obtain rfl:i=0:=by omega
       exact Ac _ w' ((HX.out.row.2.2.2.2 _ hm).later hgw)
     skip
     obtain rfl:i=1:=by omega
     exact Ac _ w' ((HX.out.row.2.2.2.2 _ hm).later hgw)))
    simp only[aa.val]at HK
    go_wp2_with fail
    refine HK.out.mono ?_
    rintro e w3 ⟨rfl,hg3⟩
    have cu:=Lib.hid (Mv.trans aK.out hg3 (λ_ e=>e.elim))
    clear hg3
    go_wp2_with fail
    go_ret
    exact⟨ax HR.out.symm,cu.out⟩
 by_cases hG:k=44\/k=45
 · have HG:=Lib.hid (show Grow w (w.alloc (.cells #[.int .u8 k,.int .i64 n,.string s,.slice a l.length cap] 26))from(Mv.refl _ _).alloc _)
   have HB:=Lib.hid (heap_alloc_new w (.cells #[.int .u8 k,.int .i64 n,.string s,.slice a l.length cap] 26))
   have fM:=Lib.hid (u6 k n s a l cap (w.alloc (.cells #[.int .u8 k,.int .i64 n,.string s,.slice a l.length cap] 26)) hs)
   have fO:=Lib.hid (show dZ n s=false->bI (.mk k n s (aa.ts l))=false from λh=>by rcases hG with rfl|rfl <;> simp[bI,h])
   have dY:=Lib.hid (show dZ n s=true->bI (.mk k n s (aa.ts l))=aV [iM] (aa.ts l)from λh=>by rcases hG with rfl|rfl <;> simp[bI,h,pF,pG,pJ,o9,pK])
   rcases hG with rfl|rfl
   all_goals
    go_enter Tryz.func116,Tryz.ntmps116
    go_wp2_with fail
    refine fM.out.mono ?_
    rintro e w2 ⟨rfl,hg2⟩
    have HG2:=Lib.hid (Mv.trans HG.out hg2 (λ_ e=>e.elim))
    have hb2:=aJ HB.out hg2
    obtain⟨m0,m1,m2,m3⟩:=gu hb2
    have hlb:=lt_of_block hb2
    clear hg2 hb2
    generalize dZ n s=pb at *
    cases pb with
    |false =>
     have HR:=Lib.hid (fO.out rfl)
     go_wp2_with fail
     go_ret
     exact⟨ax HR.out.symm,HG2.out⟩
    |true =>
     have HR:=Lib.hid (dY.out rfl)
     have aK:=Lib.hid (HG2.out.alloc (.cells #[.func (.func 155) #[] #[]] 73))
     have HK:=Lib.hid (pE _ n s (.slice a l.length cap) l [155] [iM] (.slice (some ⟨w2.heap.size,0,none⟩) 1 1) (w2.alloc (.cells #[.func (.func 155) #[] #[]] 73)) (HX.out.later aK.out) (aB.gW (l:=[155]) (λ_=>rfl) (heap_alloc_new w2 _) rfl (by simp)) rfl (by decide) (λi hi hk hp w' hg=>by
      have hgw:=Mv.trans aK.out hg (λ_ e=>e.elim)
      have hm:=List.getElem_mem hk
      simp only[List.length_cons,List.length_nil]at hi
      skip
      obtain rfl:i=0:=by omega
      exact Ac _ w' ((HX.out.row.2.2.2.2 _ hm).later hgw)))
     simp only[aa.val]at HK
     go_wp2_with fail
     refine HK.out.mono ?_
     rintro e w3 ⟨rfl,hg3⟩
     have cu:=Lib.hid (Mv.trans aK.out hg3 (λ_ e=>e.elim))
     clear hg3
     go_wp2_with fail
     go_ret
     exact⟨ax HR.out.symm,cu.out⟩
 have zM:k≠44:=by omega
 have h45:k≠45:=by omega
 clear hG
 by_cases hG:k=46\/k=47\/k=48\/k=49
 · have HG:=Lib.hid (show Grow w (w.alloc (.cells #[.int .u8 k,.int .i64 n,.string s,.slice a l.length cap] 26))from(Mv.refl _ _).alloc _)
   have HB:=Lib.hid (heap_alloc_new w (.cells #[.int .u8 k,.int .i64 n,.string s,.slice a l.length cap] 26))
   have fM:=Lib.hid (uZ k n s a l cap (w.alloc (.cells #[.int .u8 k,.int .i64 n,.string s,.slice a l.length cap] 26)))
   have fO:=Lib.hid (show dO n s=false->bI (.mk k n s (aa.ts l))=false from λh=>by rcases hG with rfl|rfl|rfl|rfl <;> simp[bI,h])
   have dY:=Lib.hid (show dO n s=true->bI (.mk k n s (aa.ts l))=aV [iM] (aa.ts l)from λh=>by rcases hG with rfl|rfl|rfl|rfl <;> simp[bI,h,pF,pG,pJ,o9,pK])
   rcases hG with rfl|rfl|rfl|rfl
   all_goals
    go_enter Tryz.func116,Tryz.ntmps116
    go_wp2_with fail
    refine fM.out.mono ?_
    rintro e w2 ⟨rfl,hg2⟩
    have HG2:=Lib.hid (Mv.trans HG.out hg2 (λ_ e=>e.elim))
    have hb2:=aJ HB.out hg2
    obtain⟨m0,m1,m2,m3⟩:=gu hb2
    have hlb:=lt_of_block hb2
    clear hg2 hb2
    generalize dO n s=pb at *
    cases pb with
    |false =>
     have HR:=Lib.hid (fO.out rfl)
     go_wp2_with fail
     go_ret
     exact⟨ax HR.out.symm,HG2.out⟩
    |true =>
     have HR:=Lib.hid (dY.out rfl)
     have aK:=Lib.hid (HG2.out.alloc (.cells #[.func (.func 155) #[] #[]] 73))
     have HK:=Lib.hid (pE _ n s (.slice a l.length cap) l [155] [iM] (.slice (some ⟨w2.heap.size,0,none⟩) 1 1) (w2.alloc (.cells #[.func (.func 155) #[] #[]] 73)) (HX.out.later aK.out) (aB.gW (l:=[155]) (λ_=>rfl) (heap_alloc_new w2 _) rfl (by simp)) rfl (by decide) (λi hi hk hp w' hg=>by
      have hgw:=Mv.trans aK.out hg (λ_ e=>e.elim)
      have hm:=List.getElem_mem hk
      simp only[List.length_cons,List.length_nil]at hi
      skip
      obtain rfl:i=0:=by omega
      exact Ac _ w' ((HX.out.row.2.2.2.2 _ hm).later hgw)))
     simp only[aa.val]at HK
     go_wp2_with fail
     refine HK.out.mono ?_
     rintro e w3 ⟨rfl,hg3⟩
     have cu:=Lib.hid (Mv.trans aK.out hg3 (λ_ e=>e.elim))
     clear hg3
     go_wp2_with fail
     go_ret
     exact⟨ax HR.out.symm,cu.out⟩
 have h46:k≠46:=by omega
 have h47:k≠47:=by omega
 have h48:k≠48:=by omega
 have VX:k≠49:=by omega
 clear hG
 by_cases h50:k=50
 · subst h50
   have HG:=Lib.hid (show Grow w (w.alloc (.cells #[.int .u8 50,.int .i64 n,.string s,.slice a l.length cap] 26))from(Mv.refl _ _).alloc _)
   have HB:=Lib.hid (heap_alloc_new w (.cells #[.int .u8 50,.int .i64 n,.string s,.slice a l.length cap] 26))
   have fM:=Lib.hid (u6 50 n s a l cap (w.alloc (.cells #[.int .u8 50,.int .i64 n,.string s,.slice a l.length cap] 26)) hs)
   have fO:=Lib.hid (show dZ n s=false->bI (.mk 50 n s (aa.ts l))=false from λh=>by simp[bI,h])
   have dY:=Lib.hid (show dZ n s=true->bI (.mk 50 n s (aa.ts l))=(decide (l.length<=8) && (aa.ts l).all mJ)from λh=>by simp[bI,h,aa.kN])
   go_enter Tryz.func116,Tryz.ntmps116
   go_wp2_with fail
   refine fM.out.mono ?_
   rintro e w2 ⟨rfl,hg2⟩
   have HG2:=Lib.hid (Mv.trans HG.out hg2 (λ_ e=>e.elim))
   have hb2:=aJ HB.out hg2
   obtain⟨m0,m1,m2,m3⟩:=gu hb2
   have hlb:=lt_of_block hb2
   clear hg2 hb2
   generalize dZ n s=pb at *
   cases pb with
   |false =>
    have HR:=Lib.hid (fO.out rfl)
    go_wp2_with fail
    go_ret
    exact⟨ax HR.out.symm,HG2.out⟩
   |true =>
    by_cases h8:l.length<=8
    · have HR:=Lib.hid (show bI (.mk 50 n s (aa.ts l))=(aa.ts l).all mJ from by rw[dY.out rfl];simp[h8])
      have HE:=Lib.hid (Iu (.slice a l.length cap) l 158 mJ w2 (HX.out.row.2.2.2.1.later HG2.out) (λx hx=>(HX.out.row.2.2.2.2 x hx).later HG2.out) (.inr rfl) (λx hx w' hg=>Ot x w' ((HX.out.row.2.2.2.2 x hx).later (Mv.trans HG2.out hg (λ_ e=>e.elim)))))
      go_wp2_with fail
      refine HE.out.mono ?_
      rintro e w3 ⟨rfl,hg3⟩
      have cu:=Lib.hid (Mv.trans HG2.out hg3 (λ_ e=>e.elim))
      clear hg3
      go_wp2_with fail
      go_ret
      exact⟨ax HR.out.symm,cu.out⟩
    · have HR:=Lib.hid (show bI (.mk 50 n s (aa.ts l))=false from by rw[dY.out rfl];simp[h8])
      go_wp2_with fail
      go_ret
      exact⟨ax HR.out.symm,HG2.out⟩
 by_cases uM:k=51
 · subst uM
   have HG:=Lib.hid (show Grow w (w.alloc (.cells #[.int .u8 51,.int .i64 n,.string s,.slice a l.length cap] 26))from(Mv.refl _ _).alloc _)
   have HB:=Lib.hid (heap_alloc_new w (.cells #[.int .u8 51,.int .i64 n,.string s,.slice a l.length cap] 26))
   have fM:=Lib.hid (u6 51 n s a l cap (w.alloc (.cells #[.int .u8 51,.int .i64 n,.string s,.slice a l.length cap] 26)) hs)
   have fO:=Lib.hid (show dZ n s=false->bI (.mk 51 n s (aa.ts l))=false from λh=>by simp[bI,h])
   have dY:=Lib.hid (show dZ n s=true->bI (.mk 51 n s (aa.ts l))=(decide (l.length<=8) && (aa.ts l).all mJ)from λh=>by simp[bI,h,aa.kN])
   go_enter Tryz.func116,Tryz.ntmps116
   go_wp2_with fail
   refine fM.out.mono ?_
   rintro e w2 ⟨rfl,hg2⟩
   have HG2:=Lib.hid (Mv.trans HG.out hg2 (λ_ e=>e.elim))
   have hb2:=aJ HB.out hg2
   obtain⟨m0,m1,m2,m3⟩:=gu hb2
   have hlb:=lt_of_block hb2
   clear hg2 hb2
   generalize dZ n s=pb at *
   cases pb with
   |false =>
    have HR:=Lib.hid (fO.out rfl)
    go_wp2_with fail
    go_ret
    exact⟨ax HR.out.symm,HG2.out⟩
   |true =>
    by_cases h8:l.length<=8
    · have HR:=Lib.hid (show bI (.mk 51 n s (aa.ts l))=(aa.ts l).all mJ from by rw[dY.out rfl];simp[h8])
      have HE:=Lib.hid (Iu (.slice a l.length cap) l 158 mJ w2 (HX.out.row.2.2.2.1.later HG2.out) (λx hx=>(HX.out.row.2.2.2.2 x hx).later HG2.out) (.inr rfl) (λx hx w' hg=>Ot x w' ((HX.out.row.2.2.2.2 x hx).later (Mv.trans HG2.out hg (λ_ e=>e.elim)))))
      go_wp2_with fail
      refine HE.out.mono ?_
      rintro e w3 ⟨rfl,hg3⟩
      have cu:=Lib.hid (Mv.trans HG2.out hg3 (λ_ e=>e.elim))
      clear hg3
      go_wp2_with fail
      go_ret
      exact⟨ax HR.out.symm,cu.out⟩
    · have HR:=Lib.hid (show bI (.mk 51 n s (aa.ts l))=false from by rw[dY.out rfl];simp[h8])
      go_wp2_with fail
      go_ret
      exact⟨ax HR.out.symm,HG2.out⟩
 by_cases hG:k=52\/k=53
 · have HG:=Lib.hid (show Grow w (w.alloc (.cells #[.int .u8 k,.int .i64 n,.string s,.slice a l.length cap] 26))from(Mv.refl _ _).alloc _)
   have HB:=Lib.hid (heap_alloc_new w (.cells #[.int .u8 k,.int .i64 n,.string s,.slice a l.length cap] 26))
   have fM:=Lib.hid (uZ k n s a l cap (w.alloc (.cells #[.int .u8 k,.int .i64 n,.string s,.slice a l.length cap] 26)))
   have fO:=Lib.hid (show dO n s=false->bI (.mk k n s (aa.ts l))=false from λh=>by rcases hG with rfl|rfl <;> simp[bI,h])
   have dY:=Lib.hid (show dO n s=true->bI (.mk k n s (aa.ts l))=aV [aG,gB,gB,aG] (aa.ts l)from λh=>by rcases hG with rfl|rfl <;> simp[bI,h,pF,pG,pJ,o9,pK])
   rcases hG with rfl|rfl
   all_goals
    go_enter Tryz.func116,Tryz.ntmps116
    go_wp2_with fail
    refine fM.out.mono ?_
    rintro e w2 ⟨rfl,hg2⟩
    have HG2:=Lib.hid (Mv.trans HG.out hg2 (λ_ e=>e.elim))
    have hb2:=aJ HB.out hg2
    obtain⟨m0,m1,m2,m3⟩:=gu hb2
    have hlb:=lt_of_block hb2
    clear hg2 hb2
    generalize dO n s=pb at *
    cases pb with
    |false =>
     have HR:=Lib.hid (fO.out rfl)
     go_wp2_with fail
     go_ret
     exact⟨ax HR.out.symm,HG2.out⟩
    |true =>
     have HR:=Lib.hid (dY.out rfl)
     have aK:=Lib.hid (HG2.out.alloc (.cells #[.func (.func 156) #[] #[],.func (.func 77) #[] #[],.func (.func 77) #[] #[],.func (.func 156) #[] #[]] 73))
     have HK:=Lib.hid (pE _ n s (.slice a l.length cap) l [156,77,77,156] [aG,gB,gB,aG] (.slice (some ⟨w2.heap.size,0,none⟩) 4 4) (w2.alloc (.cells #[.func (.func 156) #[] #[],.func (.func 77) #[] #[],.func (.func 77) #[] #[],.func (.func 156) #[] #[]] 73)) (HX.out.later aK.out) (aB.gW (l:=[156,77,77,156]) (λ_=>rfl) (heap_alloc_new w2 _) rfl (by simp)) rfl (by decide) (λi hi hk hp w' hg=>by
      have hgw:=Mv.trans aK.out hg (λ_ e=>e.elim)
      have hm:=List.getElem_mem hk
      simp only[List.length_cons,List.length_nil]at hi
      rcases Nat.lt_or_ge i 1 with h0|h0
      · obtain rfl:i=0:=by omega
        exact u7 _ w' ((HX.out.row.2.2.2.2 _ hm).later hgw)
      rcases Nat.lt_or_ge i 2 with h1|h1
      · obtain rfl:i=1:=by omega
        exact uL.out _ hm w' hgw
      rcases Nat.lt_or_ge i 3 with h2|h2
      · obtain rfl:i=2:=by omega
        exact uL.out _ hm w' hgw
      skip
      obtain rfl:i=3:=by omega
      exact u7 _ w' ((HX.out.row.2.2.2.2 _ hm).later hgw)))
     simp only[aa.val]at HK
     go_wp2_with fail
     refine HK.out.mono ?_
     rintro e w3 ⟨rfl,hg3⟩
     have cu:=Lib.hid (Mv.trans aK.out hg3 (λ_ e=>e.elim))
     clear hg3
     go_wp2_with fail
     go_ret
     exact⟨ax HR.out.symm,cu.out⟩
 have VY:k≠52:=by omega
 have VZ:k≠53:=by omega
 clear hG
 by_cases xw:k=54
 · subst xw
   have HG:=Lib.hid (show Grow w (w.alloc (.cells #[.int .u8 54,.int .i64 n,.string s,.slice a l.length cap] 26))from(Mv.refl _ _).alloc _)
   have HB:=Lib.hid (heap_alloc_new w (.cells #[.int .u8 54,.int .i64 n,.string s,.slice a l.length cap] 26))
   have fM:=Lib.hid (u6 54 n s a l cap (w.alloc (.cells #[.int .u8 54,.int .i64 n,.string s,.slice a l.length cap] 26)) hs)
   have fO:=Lib.hid (show dZ n s=false->bI (.mk 54 n s (aa.ts l))=false from λh=>by simp[bI,h])
   have dY:=Lib.hid (show dZ n s=true->bI (.mk 54 n s (aa.ts l))=aV [aG,gB,aG] (aa.ts l)from λh=>by simp[bI,h,pF,pG,pJ,o9,pK])
   go_enter Tryz.func116,Tryz.ntmps116
   go_wp2_with fail
   refine fM.out.mono ?_
   rintro e w2 ⟨rfl,hg2⟩
   have HG2:=Lib.hid (Mv.trans HG.out hg2 (λ_ e=>e.elim))
   have hb2:=aJ HB.out hg2
   obtain⟨m0,m1,m2,m3⟩:=gu hb2
   have hlb:=lt_of_block hb2
   clear hg2 hb2
   generalize dZ n s=pb at *
   cases pb with
   |false =>
    have HR:=Lib.hid (fO.out rfl)
    go_wp2_with fail
    go_ret
    exact⟨ax HR.out.symm,HG2.out⟩
   |true =>
    have HR:=Lib.hid (dY.out rfl)
    have aK:=Lib.hid (HG2.out.alloc (.cells #[.func (.func 156) #[] #[],.func (.func 77) #[] #[],.func (.func 156) #[] #[]] 73))
    have HK:=Lib.hid (pE 54 n s (.slice a l.length cap) l [156,77,156] [aG,gB,aG] (.slice (some ⟨w2.heap.size,0,none⟩) 3 3) (w2.alloc (.cells #[.func (.func 156) #[] #[],.func (.func 77) #[] #[],.func (.func 156) #[] #[]] 73)) (HX.out.later aK.out) (aB.gW (l:=[156,77,156]) (λ_=>rfl) (heap_alloc_new w2 _) rfl (by simp)) rfl (by decide) (λi hi hk hp w' hg=>by
     have hgw:=Mv.trans aK.out hg (λ_ e=>e.elim)
     have hm:=List.getElem_mem hk
     simp only[List.length_cons,List.length_nil]at hi
     rcases Nat.lt_or_ge i 1 with h0|h0
     · obtain rfl:i=0:=by omega
       exact u7 _ w' ((HX.out.row.2.2.2.2 _ hm).later hgw)
     rcases Nat.lt_or_ge i 2 with h1|h1
     · obtain rfl:i=1:=by omega
       exact uL.out _ hm w' hgw
     skip
     obtain rfl:i=2:=by omega
     exact u7 _ w' ((HX.out.row.2.2.2.2 _ hm).later hgw)))
    simp only[aa.val]at HK
    go_wp2_with fail
    refine HK.out.mono ?_
    rintro e w3 ⟨rfl,hg3⟩
    have cu:=Lib.hid (Mv.trans aK.out hg3 (λ_ e=>e.elim))
    clear hg3
    go_wp2_with fail
    go_ret
    exact⟨ax HR.out.symm,cu.out⟩
 by_cases xx:k=55
 · subst xx
   have HG:=Lib.hid (show Grow w (w.alloc (.cells #[.int .u8 55,.int .i64 n,.string s,.slice a l.length cap] 26))from(Mv.refl _ _).alloc _)
   have HB:=Lib.hid (heap_alloc_new w (.cells #[.int .u8 55,.int .i64 n,.string s,.slice a l.length cap] 26))
   have fM:=Lib.hid (u6 55 n s a l cap (w.alloc (.cells #[.int .u8 55,.int .i64 n,.string s,.slice a l.length cap] 26)) hs)
   have fO:=Lib.hid (show dZ n s=false->bI (.mk 55 n s (aa.ts l))=false from λh=>by simp[bI,h])
   have dY:=Lib.hid (show dZ n s=true->bI (.mk 55 n s (aa.ts l))=aV [gB] (aa.ts l)from λh=>by simp[bI,h,pF,pG,pJ,o9,pK])
   go_enter Tryz.func116,Tryz.ntmps116
   go_wp2_with fail
   refine fM.out.mono ?_
   rintro e w2 ⟨rfl,hg2⟩
   have HG2:=Lib.hid (Mv.trans HG.out hg2 (λ_ e=>e.elim))
   have hb2:=aJ HB.out hg2
   obtain⟨m0,m1,m2,m3⟩:=gu hb2
   have hlb:=lt_of_block hb2
   clear hg2 hb2
   generalize dZ n s=pb at *
   cases pb with
   |false =>
    have HR:=Lib.hid (fO.out rfl)
    go_wp2_with fail
    go_ret
    exact⟨ax HR.out.symm,HG2.out⟩
   |true =>
    have HR:=Lib.hid (dY.out rfl)
    have aK:=Lib.hid (HG2.out.alloc (.cells #[.func (.func 77) #[] #[]] 73))
    have HK:=Lib.hid (pE 55 n s (.slice a l.length cap) l [77] [gB] (.slice (some ⟨w2.heap.size,0,none⟩) 1 1) (w2.alloc (.cells #[.func (.func 77) #[] #[]] 73)) (HX.out.later aK.out) (aB.gW (l:=[77]) (λ_=>rfl) (heap_alloc_new w2 _) rfl (by simp)) rfl (by decide) (λi hi hk hp w' hg=>by
     have hgw:=Mv.trans aK.out hg (λ_ e=>e.elim)
     have hm:=List.getElem_mem hk
     simp only[List.length_cons,List.length_nil]at hi
     skip
     obtain rfl:i=0:=by omega
     exact uL.out _ hm w' hgw))
    simp only[aa.val]at HK
    go_wp2_with fail
    refine HK.out.mono ?_
    rintro e w3 ⟨rfl,hg3⟩
    have cu:=Lib.hid (Mv.trans aK.out hg3 (λ_ e=>e.elim))
    clear hg3
    go_wp2_with fail
    go_ret
    exact⟨ax HR.out.symm,cu.out⟩
 have agR:(k == 40)=false:=by simp;omega
 have agS:(k == 41)=false:=by simp;omega
 have agT:(k == 42)=false:=by simp;omega
 have agU:(k == 43)=false:=by simp;omega
 have adn:(k == 44)=false:=by simp;omega
 have ado:(k == 45)=false:=by simp;omega
 have agV:(k == 46)=false:=by simp;omega
 have agW:(k == 47)=false:=by simp;omega
 have agX:(k == 48)=false:=by simp;omega
 have agY:(k == 49)=false:=by simp;omega
 have adp:(k == 50)=false:=by simp;omega
 have adq:(k == 51)=false:=by simp;omega
 have agZ:(k == 52)=false:=by simp;omega
 have ag0:(k == 53)=false:=by simp;omega
 have adr:(k == 54)=false:=by simp;omega
 have ads:(k == 55)=false:=by simp;omega
 have ag1:(k == 56)=false:=by simp;omega
 have HG:=Lib.hid (show Grow w (w.alloc (.cells #[.int .u8 k,.int .i64 n,.string s,.slice a l.length cap] 26))from(Mv.refl _ _).alloc _)
 have HR:=Lib.hid (show bI (.mk k n s (aa.ts l))=false from by simp[bI,VT,VU,VV,h43,zM,h45,h46,h47,h48,VX,h50,uM,VY,VZ,xw,xx,VW])
 clear VT VU VV h43 zM h45 h46 h47 h48 VX h50 uM VY VZ xw xx VW
 go_enter Tryz.func116,Tryz.ntmps116
 go_wp2_with fail
 go_ret
 exact⟨ax HR.out.symm,HG.out⟩
end Go.Proofs.YtadecgbblajifaaGreatDoor
