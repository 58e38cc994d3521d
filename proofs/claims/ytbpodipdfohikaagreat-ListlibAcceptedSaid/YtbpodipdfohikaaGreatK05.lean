import Derived.Test.YtbpodipdfohikaaGreatK04
set_option linter.unusedSimpArgs false
set_option linter.unusedVariables false
set_option maxRecDepth 100000
set_option maxHeartbeats 25600000
namespace Go.Proofs.YtbpodipdfohikaaGreat
open Go.RowKit Go.Instr
theorem qD (l:List Tree):aY [aJ] l=(l.length == 1 && kS l):=by
 match l with
 | []=>rfl
 | [t]=>simp[aY,kS]
 |_ :: _ :: _=>simp[aY]
theorem qE (l:List Tree):aY [aJ,aJ] l=(l.length == 2 && kS l):=by
 match l with
 | []=>rfl
 | [t]=>simp[aY]
 | [t,u]=>simp[aY,kS]
 |_ :: _ :: _ :: _=>simp[aY]
theorem qF (l:List Tree):aY [aJ,dM,dM,aJ] l=(aY [aJ,λ_=>true,λ_=>true,aJ] l && ((kX l)[1]?.getD false && (kX l)[2]?.getD false)):=by
 match l with
 | []=>rfl
 | [_]=>simp[aY]
 | [_,_]=>simp[aY]
 | [_,_,_]=>simp[aY]
 | [a,b,c,d] =>
  simp only[aY,G9,List.map_cons,List.map_nil,List.getElem?_cons_succ,List.getElem?_cons_zero,Option.getD_some,Bool.and_true,Bool.true_and]
  cases aJ a <;> cases dM b <;> cases dM c <;> cases aJ d <;> rfl
 |_ :: _ :: _ :: _ :: _ :: _=>simp[aY]
theorem qA (l:List Tree):aY [aJ,dM,aJ] l=(aY [aJ,λ_=>true,aJ] l && (kX l)[1]?.getD false):=by
 match l with
 | []=>rfl
 | [_]=>simp[aY]
 | [_,_]=>simp[aY]
 | [a,b,c] =>
  simp only[aY,G9,List.map_cons,List.map_nil,List.getElem?_cons_succ,List.getElem?_cons_zero,Option.getD_some,Bool.and_true,Bool.true_and]
  cases aJ a <;> cases dM b <;> cases aJ c <;> rfl
 |_ :: _ :: _ :: _ :: _=>simp[aY]
theorem qG (l:List Tree):aY [dM] l=(l.length == 1 && (kX l)[0]?.getD false):=by
 match l with
 | []=>rfl
 | [t]=>simp[aY,G9]
 |_ :: _ :: _=>simp[aY]
set_option maxRecDepth 100000 in
set_option maxHeartbeats 3200000 in
theorem Us:∀ (m:Nat) (x:ae),SizeOf.sizeOf x<=m->∀ w:World,bD w x->Calls Tryz.prog 95 #[x.val] w (eP w (aJ x.t)):=by
 intro m
 induction m with
 |zero=>intro x hm;cases x;simp at hm
 |succ m ih =>
  intro x hm w hx
  obtain⟨k,n,s,kv,l⟩:=x
  obtain⟨a,cap,rfl,hcap,hlen⟩:=hx.form
  obtain⟨hk1,hk2⟩:=hx.row.1
  have hs:=hx.row.2.2.1
  have HX:=Lib.hid hx
  have iM:=Lib.hid (λ(y:ae) (hy:y∈l) (w':World) (hg:Grow w w')=>ih y (by have:=rX (k:=k) (n:=n) (s:=s) (kv := .slice a l.length cap) hy;omega) w' ((hx.row.2.2.2.2 y hy).later hg))
  clear ih hm hx
  simp only[ae.val,ae.t]
  by_cases h1:k=1
  · subst h1
    have HG:=Lib.hid (show Grow w (w.alloc (.cells #[.int .u8 1,.int .i64 n,.string s,.slice a l.length cap] 40))from(Mv.refl _ _).alloc _)
    by_cases hn0:0<=n
    · by_cases hs0:s.size=0
      · have hemp:=KC hs0
        cases l with
        |nil =>
         have HR:=Lib.hid (show aJ (.mk 1 n s (ae.ts []))=true from by simp[aJ,hn0,hs0,ae.ts])
         simp only[List.length_nil]at HG ⊢
         clear hs0
         go_enter Tryz.func95,Tryz.ntmps95
         go_wp2_with fail
         go_ret
         exact⟨aV HR.out.symm,HG.out⟩
        |cons x r =>
         have HR:=Lib.hid (show aJ (.mk 1 n s (ae.ts (x :: r)))=false from by simp[aJ,ae.ts])
         have hl1:((r.length+1:Nat) == 0)=false:=by simp
         simp only[List.length_cons]at HG ⊢
         clear hs0
         go_enter Tryz.func95,Tryz.ntmps95
         go_wp2_with fail
         go_ret
         exact⟨aV HR.out.symm,HG.out⟩
      · have hne:=Bi (s:=s) (by omega)
        have HR:=Lib.hid (show aJ (.mk 1 n s (ae.ts l))=false from by simp[aJ,hs0])
        clear hs0
        go_enter Tryz.func95,Tryz.ntmps95
        go_wp2_with fail
        go_ret
        exact⟨aV HR.out.symm,HG.out⟩
    · have HR:=Lib.hid (show aJ (.mk 1 n s (ae.ts l))=false from by simp[aJ,hn0])
      go_enter Tryz.func95,Tryz.ntmps95
      go_wp2_with fail
      go_ret
      exact⟨aV HR.out.symm,HG.out⟩
  by_cases hG:k=2\/k=4\/k=5
  · have HG:=Lib.hid (show Grow w (w.alloc (.cells #[.int .u8 k,.int .i64 n,.string s,.slice a l.length cap] 40))from(Mv.refl _ _).alloc _)
    have HB:=Lib.hid (heap_alloc_new w (.cells #[.int .u8 k,.int .i64 n,.string s,.slice a l.length cap] 40))
    have eY:=Lib.hid (wP k n s a l cap (w.alloc (.cells #[.int .u8 k,.int .i64 n,.string s,.slice a l.length cap] 40)) hs)
    have dh:=Lib.hid (show ed n s=false->aJ (.mk k n s (ae.ts l))=false from λh=>by rcases hG with rfl|rfl|rfl <;> simp[aJ,h])
    have eQ:=Lib.hid (show ed n s=true->aJ (.mk k n s (ae.ts l))=l.isEmpty from λh=>by rcases hG with rfl|rfl|rfl <;> simp[aJ,h,ae.jv])
    rcases hG with rfl|rfl|rfl
    all_goals
     go_enter Tryz.func95,Tryz.ntmps95
     go_wp2_with fail
     refine eY.out.mono ?_
     rintro e w2 ⟨rfl,hg2⟩
     have HG2:=Lib.hid (Mv.trans HG.out hg2 (λ_ e=>e.elim))
     have hb2:=ah HB.out hg2
     obtain⟨m0,m1,m2,m3⟩:=fV hb2
     have hlb:=lt_of_block hb2
     clear hg2 hb2
     generalize ed n s=pb at *
     cases pb with
     |false =>
      have HR:=Lib.hid (dh.out rfl)
      go_wp2_with fail
      go_ret
      exact⟨aV HR.out.symm,HG2.out⟩
     |true =>
      have HR:=Lib.hid (eQ.out rfl)
      cases l with
      |nil =>
       simp only[List.length_nil]at m3 ⊢
       go_wp2_with fail
       go_ret
       exact⟨aV HR.out.symm,HG2.out⟩
      |cons x r =>
       have hl1:((r.length+1:Nat) == 0)=false:=by simp
       simp only[List.length_cons]at m3 ⊢
       go_wp2_with fail
       go_ret
       exact⟨aV HR.out.symm,HG2.out⟩
  have h2:k≠2:=by omega
  have h4:k≠4:=by omega
  have h5:k≠5:=by omega
  clear hG
  by_cases h3:k=3
  · subst h3
    have HG:=Lib.hid (show Grow w (w.alloc (.cells #[.int .u8 3,.int .i64 n,.string s,.slice a l.length cap] 40))from(Mv.refl _ _).alloc _)
    have HB:=Lib.hid (heap_alloc_new w (.cells #[.int .u8 3,.int .i64 n,.string s,.slice a l.length cap] 40))
    have eY:=Lib.hid (wP 3 n s a l cap (w.alloc (.cells #[.int .u8 3,.int .i64 n,.string s,.slice a l.length cap] 40)) hs)
    have dh:=Lib.hid (show ed n s=false->aJ (.mk 3 n s (ae.ts l))=false from λh=>by simp[aJ,h])
    have eQ:=Lib.hid (show ed n s=true->aJ (.mk 3 n s (ae.ts l))=aY [aJ] (ae.ts l)from λh=>by simp[aJ,h,qD,qE,qF,qA,qG])
    go_enter Tryz.func95,Tryz.ntmps95
    go_wp2_with fail
    refine eY.out.mono ?_
    rintro e w2 ⟨rfl,hg2⟩
    have HG2:=Lib.hid (Mv.trans HG.out hg2 (λ_ e=>e.elim))
    have hb2:=ah HB.out hg2
    obtain⟨m0,m1,m2,m3⟩:=fV hb2
    have hlb:=lt_of_block hb2
    clear hg2 hb2
    generalize ed n s=pb at *
    cases pb with
    |false =>
     have HR:=Lib.hid (dh.out rfl)
     go_wp2_with fail
     go_ret
     exact⟨aV HR.out.symm,HG2.out⟩
    |true =>
     have HR:=Lib.hid (eQ.out rfl)
     have bE:=Lib.hid (HG2.out.alloc (.cells #[.func (.func 95) #[] #[]] 65))
     have HK:=Lib.hid (qC 3 n s (.slice a l.length cap) l [95] [aJ] (.slice (some ⟨w2.heap.size,0,none⟩) 1 1) (w2.alloc (.cells #[.func (.func 95) #[] #[]] 65)) (HX.out.later bE.out) (ay.dF (l:=[95]) (λ_=>rfl) (heap_alloc_new w2 _) rfl (by simp)) rfl (by decide) (λi hi hk hp w' hg=>by
      have hgw:=Mv.trans bE.out hg (λ_ e=>e.elim)
      have hm:=List.getElem_mem hk
      simp only[List.length_cons,List.length_nil]at hi
      skip
      obtain rfl:i=0:=by omega
      exact iM.out _ hm w' hgw))
     simp only[ae.val]at HK
     go_wp2_with fail
     refine HK.out.mono ?_
     rintro e w3 ⟨rfl,hg3⟩
     have aA:=Lib.hid (Mv.trans bE.out hg3 (λ_ e=>e.elim))
     clear hg3
     go_wp2_with fail
     go_ret
     exact⟨aV HR.out.symm,aA.out⟩
  by_cases hG:k=6\/k=7
  · have HG:=Lib.hid (show Grow w (w.alloc (.cells #[.int .u8 k,.int .i64 n,.string s,.slice a l.length cap] 40))from(Mv.refl _ _).alloc _)
    have HB:=Lib.hid (heap_alloc_new w (.cells #[.int .u8 k,.int .i64 n,.string s,.slice a l.length cap] 40))
    have eY:=Lib.hid (wO k n s a l cap (w.alloc (.cells #[.int .u8 k,.int .i64 n,.string s,.slice a l.length cap] 40)))
    have dh:=Lib.hid (show dO n s=false->aJ (.mk k n s (ae.ts l))=false from λh=>by rcases hG with rfl|rfl <;> simp[aJ,h])
    have eQ:=Lib.hid (show dO n s=true->aJ (.mk k n s (ae.ts l))=aY [aJ] (ae.ts l)from λh=>by rcases hG with rfl|rfl <;> simp[aJ,h,qD,qE,qF,qA,qG])
    rcases hG with rfl|rfl
    all_goals
     go_enter Tryz.func95,Tryz.ntmps95
     go_wp2_with fail
     refine eY.out.mono ?_
     rintro e w2 ⟨rfl,hg2⟩
     have HG2:=Lib.hid (Mv.trans HG.out hg2 (λ_ e=>e.elim))
     have hb2:=ah HB.out hg2
     obtain⟨m0,m1,m2,m3⟩:=fV hb2
     have hlb:=lt_of_block hb2
     clear hg2 hb2
     generalize dO n s=pb at *
     cases pb with
     |false =>
      have HR:=Lib.hid (dh.out rfl)
      go_wp2_with fail
      go_ret
      exact⟨aV HR.out.symm,HG2.out⟩
     |true =>
      have HR:=Lib.hid (eQ.out rfl)
      have bE:=Lib.hid (HG2.out.alloc (.cells #[.func (.func 95) #[] #[]] 65))
      have HK:=Lib.hid (qC _ n s (.slice a l.length cap) l [95] [aJ] (.slice (some ⟨w2.heap.size,0,none⟩) 1 1) (w2.alloc (.cells #[.func (.func 95) #[] #[]] 65)) (HX.out.later bE.out) (ay.dF (l:=[95]) (λ_=>rfl) (heap_alloc_new w2 _) rfl (by simp)) rfl (by decide) (λi hi hk hp w' hg=>by
       have hgw:=Mv.trans bE.out hg (λ_ e=>e.elim)
       have hm:=List.getElem_mem hk
       simp only[List.length_cons,List.length_nil]at hi
       skip
       obtain rfl:i=0:=by omega
       exact iM.out _ hm w' hgw))
      simp only[ae.val]at HK
      go_wp2_with fail
      refine HK.out.mono ?_
      rintro e w3 ⟨rfl,hg3⟩
      have aA:=Lib.hid (Mv.trans bE.out hg3 (λ_ e=>e.elim))
      clear hg3
      go_wp2_with fail
      go_ret
      exact⟨aV HR.out.symm,aA.out⟩
  have h6:k≠6:=by omega
  have h7:k≠7:=by omega
  clear hG
  by_cases hrange:8<=k/\k<=23
  · obtain⟨h8,h23⟩:=hrange
    have hr1:(k == 1)=false:=by simp;omega
    have hr2:(k == 2)=false:=by simp;omega
    have hr4:(k == 4)=false:=by simp;omega
    have fK:(k == 5)=false:=by simp;omega
    have hr3:(k == 3)=false:=by simp;omega
    have eZ:(k == 6)=false:=by simp;omega
    have fG:(k == 7)=false:=by simp;omega
    have HG:=Lib.hid (show Grow w (w.alloc (.cells #[.int .u8 k,.int .i64 n,.string s,.slice a l.length cap] 40))from(Mv.refl _ _).alloc _)
    have HB:=Lib.hid (heap_alloc_new w (.cells #[.int .u8 k,.int .i64 n,.string s,.slice a l.length cap] 40))
    have eY:=Lib.hid (wO k n s a l cap (w.alloc (.cells #[.int .u8 k,.int .i64 n,.string s,.slice a l.length cap] 40)))
    have dh:=Lib.hid (show dO n s=false->aJ (.mk k n s (ae.ts l))=false from λh=>by simp[aJ,h,show ¬ k=1 from by omega,show ¬ k=2 from by omega,show ¬ k=4 from by omega,show ¬ k=5 from by omega,show ¬ k=3 from by omega,show ¬ k=6 from by omega,show ¬ k=7 from by omega,h8,h23])
    have eQ:=Lib.hid (show dO n s=true->aJ (.mk k n s (ae.ts l))=aY [aJ,aJ] (ae.ts l)from λh=>by simp[aJ,h,qD,qE,qF,qA,qG,show ¬ k=1 from by omega,show ¬ k=2 from by omega,show ¬ k=4 from by omega,show ¬ k=5 from by omega,show ¬ k=3 from by omega,show ¬ k=6 from by omega,show ¬ k=7 from by omega,h8,h23])
    go_enter Tryz.func95,Tryz.ntmps95
    go_wp2_with fail
    refine eY.out.mono ?_
    rintro e w2 ⟨rfl,hg2⟩
    have HG2:=Lib.hid (Mv.trans HG.out hg2 (λ_ e=>e.elim))
    have hb2:=ah HB.out hg2
    obtain⟨m0,m1,m2,m3⟩:=fV hb2
    have hlb:=lt_of_block hb2
    clear hg2 hb2
    generalize dO n s=pb at *
    cases pb with
    |false =>
     have HR:=Lib.hid (dh.out rfl)
     go_wp2_with fail
     go_ret
     exact⟨aV HR.out.symm,HG2.out⟩
    |true =>
     have HR:=Lib.hid (eQ.out rfl)
     have bE:=Lib.hid (HG2.out.alloc (.cells #[.func (.func 95) #[] #[],.func (.func 95) #[] #[]] 65))
     have HK:=Lib.hid (qC k n s (.slice a l.length cap) l [95,95] [aJ,aJ] (.slice (some ⟨w2.heap.size,0,none⟩) 2 2) (w2.alloc (.cells #[.func (.func 95) #[] #[],.func (.func 95) #[] #[]] 65)) (HX.out.later bE.out) (ay.dF (l:=[95,95]) (λ_=>rfl) (heap_alloc_new w2 _) rfl (by simp)) rfl (by decide) (λi hi hk hp w' hg=>by
      have hgw:=Mv.trans bE.out hg (λ_ e=>e.elim)
      have hm:=List.getElem_mem hk
      simp only[List.length_cons,List.length_nil]at hi
      rcases Nat.lt_or_ge i 1 with h0|h0
      · obtain rfl:i=0:=by omega
        exact iM.out _ hm w' hgw
      skip
      obtain rfl:i=1:=by omega
      exact iM.out _ hm w' hgw))
     simp only[ae.val]at HK
     go_wp2_with fail
     refine HK.out.mono ?_
     rintro e w3 ⟨rfl,hg3⟩
     have aA:=Lib.hid (Mv.trans bE.out hg3 (λ_ e=>e.elim))
     clear hg3
     go_wp2_with fail
     go_ret
     exact⟨aV HR.out.symm,aA.out⟩
  · 
    have hr1:(k == 1)=false:=by simp;omega
    have hr2:(k == 2)=false:=by simp;omega
    have hr4:(k == 4)=false:=by simp;omega
    have fK:(k == 5)=false:=by simp;omega
    have hr3:(k == 3)=false:=by simp;omega
    have eZ:(k == 6)=false:=by simp;omega
    have fG:(k == 7)=false:=by simp;omega
    have HG:=Lib.hid (show Grow w (w.alloc (.cells #[.int .u8 k,.int .i64 n,.string s,.slice a l.length cap] 40))from(Mv.refl _ _).alloc _)
    have HR:=Lib.hid (show aJ (.mk k n s (ae.ts l))=false from by simp[aJ,show ¬ k=1 from by omega,show ¬ k=2 from by omega,show ¬ k=4 from by omega,show ¬ k=5 from by omega,show ¬ k=3 from by omega,show ¬ k=6 from by omega,show ¬ k=7 from by omega,hrange])
    rcases Nat.lt_or_ge k.toNat 8 with hq|hq
    · have hq1:k<8:=by omega
      go_enter Tryz.func95,Tryz.ntmps95
      go_wp2_with fail
      go_ret
      exact⟨aV HR.out.symm,HG.out⟩
    · have hq1:8<=k:=by omega
      have hq2:23<k:=by omega
      go_enter Tryz.func95,Tryz.ntmps95
      go_wp2_with fail
      go_ret
      exact⟨aV HR.out.symm,HG.out⟩
theorem rY (x:ae) (w:World) (h:bD w x):Calls Tryz.prog 95 #[x.val] w (eP w (aJ x.t)):=Us _ x (Nat.le_refl _) w h
set_option maxRecDepth 100000 in
set_option maxHeartbeats 1600000 in
theorem zy (x:ae) (w:World) (hx:bD w x):Calls Tryz.prog 94 #[x.val] w (eP w (fH x.t)):=by
 obtain⟨k,n,s,kv,l⟩:=x
 obtain⟨a,cap,rfl,hcap,hlen⟩:=hx.form
 obtain⟨hk1,hk2⟩:=hx.row.1
 have HG:=Lib.hid (show Grow w (w.alloc (.cells #[.int .u8 k,.int .i64 n,.string s,.slice a l.length cap] 40))from(Mv.refl _ _).alloc _)
 have HE:=Lib.hid (rY (.mk k n s (.slice a l.length cap) l) (w.alloc (.cells #[.int .u8 k,.int .i64 n,.string s,.slice a l.length cap] 40)) (hx.later HG.out))
 simp only[ae.val,ae.t]at HE ⊢
 clear hx
 by_cases hk:k=2\/k=3
 · have HR:=Lib.hid (show fH (.mk k n s (ae.ts l))=aJ (.mk k n s (ae.ts l))from by rcases hk with rfl|rfl <;> simp[fH,Tree.kind])
   generalize aJ (.mk k n s (ae.ts l))=bv at *
   rcases hk with rfl|rfl
   all_goals
    go_enter Tryz.func94,Tryz.ntmps94
    go_wp2_with fail
    refine HE.out.mono ?_
    rintro e w2 ⟨rfl,hg2⟩
    have HG2:=Lib.hid (Mv.trans HG.out hg2 (λ_ e=>e.elim))
    clear hg2
    go_wp2_with fail
    go_ret
    exact⟨aV HR.out.symm,HG2.out⟩
 · have hr2:(k == 2)=false:=(by simp <;> omega);have hr3:(k == 3)=false:=(by simp <;> omega)
   have HR:=Lib.hid (show fH (.mk k n s (ae.ts l))=false from by simp[fH,Tree.kind,show ¬ k=2 from by omega,show ¬ k=3 from by omega])
   go_enter Tryz.func94,Tryz.ntmps94
   go_wp2_with fail
   go_ret
   exact⟨aV HR.out.symm,HG.out⟩
set_option maxRecDepth 100000 in
set_option maxHeartbeats 1600000 in
theorem Lp (x:ae) (w:World) (hx:bD w x):Calls Tryz.prog 97 #[x.val] w (eP w (lM x.t)):=by
 obtain⟨k,n,s,kv,l⟩:=x
 obtain⟨a,cap,rfl,hcap,hlen⟩:=hx.form
 obtain⟨hk1,hk2⟩:=hx.row.1
 have HG:=Lib.hid (show Grow w (w.alloc (.cells #[.int .u8 k,.int .i64 n,.string s,.slice a l.length cap] 40))from(Mv.refl _ _).alloc _)
 have HE:=Lib.hid (rY (.mk k n s (.slice a l.length cap) l) (w.alloc (.cells #[.int .u8 k,.int .i64 n,.string s,.slice a l.length cap] 40)) (hx.later HG.out))
 simp only[ae.val,ae.t]at HE ⊢
 clear hx
 by_cases hk:k=2
 · have HR:=Lib.hid (show lM (.mk k n s (ae.ts l))=aJ (.mk k n s (ae.ts l))from by rcases hk with rfl <;> simp[lM,Tree.kind])
   generalize aJ (.mk k n s (ae.ts l))=bv at *
   rcases hk with rfl
   all_goals
    go_enter Tryz.func97,Tryz.ntmps97
    go_wp2_with fail
    refine HE.out.mono ?_
    rintro e w2 ⟨rfl,hg2⟩
    have HG2:=Lib.hid (Mv.trans HG.out hg2 (λ_ e=>e.elim))
    clear hg2
    go_wp2_with fail
    go_ret
    exact⟨aV HR.out.symm,HG2.out⟩
 · have hr2:(k == 2)=false:=(by simp <;> omega)
   have HR:=Lib.hid (show lM (.mk k n s (ae.ts l))=false from by simp[lM,Tree.kind,show ¬ k=2 from by omega])
   go_enter Tryz.func97,Tryz.ntmps97
   go_wp2_with fail
   go_ret
   exact⟨aV HR.out.symm,HG.out⟩
def GU (m:Nat):Prop:=∀ (x:ae),SizeOf.sizeOf x<=m->∀ w:World,bD w x->Calls Tryz.prog 72 #[x.val] w (eP w (aW x.t))
def Gz (m:Nat):Prop:=∀ (x:ae),SizeOf.sizeOf x<=m->∀ w:World,bD w x->Calls Tryz.prog 49 #[x.val] w (eP w (dM x.t))
set_option maxRecDepth 100000 in
set_option maxHeartbeats 1600000 in
theorem Ty (m:Nat) (ih:GU m):Gz (m+1):=by
 intro x hm w hx
 obtain⟨k,n,s,kv,l⟩:=x
 obtain⟨a,cap,rfl,hcap,hlen⟩:=hx.form
 obtain⟨hk1,hk2⟩:=hx.row.1
 have HIS:=Lib.hid (λ(y:ae) (hy:y∈l) (w':World) (hg:Grow w w')=>ih y (by have:=rX (k:=k) (n:=n) (s:=s) (kv := .slice a l.length cap) hy;omega) w' ((hx.row.2.2.2.2 y hy).later hg))
 have HX:=Lib.hid hx
 clear ih hm hx
 simp only[ae.val,ae.t]
 by_cases h57:k=57
 · subst h57
   have HG:=Lib.hid (show Grow w (w.alloc (.cells #[.int .u8 57,.int .i64 n,.string s,.slice a l.length cap] 40))from(Mv.refl _ _).alloc _)
   have HB:=Lib.hid (heap_alloc_new w (.cells #[.int .u8 57,.int .i64 n,.string s,.slice a l.length cap] 40))
   have eY:=Lib.hid (wO 57 n s a l cap (w.alloc (.cells #[.int .u8 57,.int .i64 n,.string s,.slice a l.length cap] 40)))
   have dh:=Lib.hid (show dO n s=false->dM (.mk 57 n s (ae.ts l))=false from λh=>by simp[dM,h])
   have eQ:=Lib.hid (show dO n s=true->dM (.mk 57 n s (ae.ts l))=(ae.ts l).all aW from λh=>by simp[dM,h,Gm])
   go_enter Tryz.func49,Tryz.ntmps49
   go_wp2_with fail
   refine eY.out.mono ?_
   rintro e w2 ⟨rfl,hg2⟩
   have HG2:=Lib.hid (Mv.trans HG.out hg2 (λ_ e=>e.elim))
   have hb2:=ah HB.out hg2
   obtain⟨m0,m1,m2,m3⟩:=fV hb2
   have hlb:=lt_of_block hb2
   clear hg2 hb2
   generalize dO n s=pb at *
   cases pb with
   |false =>
    have HR:=Lib.hid (dh.out rfl)
    go_wp2_with fail
    go_ret
    exact⟨aV HR.out.symm,HG2.out⟩
   |true =>
    have HR:=Lib.hid (eQ.out rfl)
    have HE:=Lib.hid (Gy (.slice a l.length cap) l 72 aW w2 (HX.out.row.2.2.2.1.later HG2.out) (λx hx=>(HX.out.row.2.2.2.2 x hx).later HG2.out) (.inl rfl) (λx hx w' hg=>HIS.out x hx w' (Mv.trans HG2.out hg (λ_ e=>e.elim))))
    go_wp2_with fail
    refine HE.out.mono ?_
    rintro e w3 ⟨rfl,hg3⟩
    have aA:=Lib.hid (Mv.trans HG2.out hg3 (λ_ e=>e.elim))
    clear hg3
    go_wp2_with fail
    go_ret
    exact⟨aV HR.out.symm,aA.out⟩
 · have abN:(k == 57)=false:=by simpa using h57
   have HG:=Lib.hid (show Grow w (w.alloc (.cells #[.int .u8 k,.int .i64 n,.string s,.slice a l.length cap] 40))from(Mv.refl _ _).alloc _)
   have HR:=Lib.hid (show dM (.mk k n s (ae.ts l))=false from by simp[dM,h57])
   go_enter Tryz.func49,Tryz.ntmps49
   go_wp2_with fail
   go_ret
   exact⟨aV HR.out.symm,HG.out⟩
set_option maxRecDepth 100000 in
set_option maxHeartbeats 6400000 in
theorem TQ (m:Nat) (ih:Gz m):GU (m+1):=by
 intro x hm w hx
 obtain⟨k,n,s,kv,l⟩:=x
 obtain⟨a,cap,rfl,hcap,hlen⟩:=hx.form
 obtain⟨hk1,hk2⟩:=hx.row.1
 have hs:=hx.row.2.2.1
 have HX:=Lib.hid hx
 have xS:=Lib.hid (λ(y:ae) (hy:y∈l) (w':World) (hg:Grow w w')=>ih y (by have:=rX (k:=k) (n:=n) (s:=s) (kv := .slice a l.length cap) hy;omega) w' ((hx.row.2.2.2.2 y hy).later hg))
 clear ih hm hx
 simp only[ae.val,ae.t]
 by_cases hG:k=40\/k=41\/k=42\/k=56
 · have HG:=Lib.hid (show Grow w (w.alloc (.cells #[.int .u8 k,.int .i64 n,.string s,.slice a l.length cap] 40))from(Mv.refl _ _).alloc _)
   have HB:=Lib.hid (heap_alloc_new w (.cells #[.int .u8 k,.int .i64 n,.string s,.slice a l.length cap] 40))
   have eY:=Lib.hid (wO k n s a l cap (w.alloc (.cells #[.int .u8 k,.int .i64 n,.string s,.slice a l.length cap] 40)))
   have dh:=Lib.hid (show dO n s=false->aW (.mk k n s (ae.ts l))=false from λh=>by rcases hG with rfl|rfl|rfl|rfl <;> simp[aW,h])
   have eQ:=Lib.hid (show dO n s=true->aW (.mk k n s (ae.ts l))=aY [fH,aJ] (ae.ts l)from λh=>by rcases hG with rfl|rfl|rfl|rfl <;> simp[aW,h,qD,qE,qF,qA,qG])
   rcases hG with rfl|rfl|rfl|rfl
   all_goals
    go_enter Tryz.func72,Tryz.ntmps72
    go_wp2_with fail
    refine eY.out.mono ?_
    rintro e w2 ⟨rfl,hg2⟩
    have HG2:=Lib.hid (Mv.trans HG.out hg2 (λ_ e=>e.elim))
    have hb2:=ah HB.out hg2
    obtain⟨m0,m1,m2,m3⟩:=fV hb2
    have hlb:=lt_of_block hb2
    clear hg2 hb2
    generalize dO n s=pb at *
    cases pb with
    |false =>
     have HR:=Lib.hid (dh.out rfl)
     go_wp2_with fail
     go_ret
     exact⟨aV HR.out.symm,HG2.out⟩
    |true =>
     have HR:=Lib.hid (eQ.out rfl)
     have bE:=Lib.hid (HG2.out.alloc (.cells #[.func (.func 94) #[] #[],.func (.func 95) #[] #[]] 65))
     have HK:=Lib.hid (qC _ n s (.slice a l.length cap) l [94,95] [fH,aJ] (.slice (some ⟨w2.heap.size,0,none⟩) 2 2) (w2.alloc (.cells #[.func (.func 94) #[] #[],.func (.func 95) #[] #[]] 65)) (HX.out.later bE.out) (ay.dF (l:=[94,95]) (λ_=>rfl) (heap_alloc_new w2 _) rfl (by simp)) rfl (by decide) (λi hi hk hp w' hg=>by
      have hgw:=Mv.trans bE.out hg (λ_ e=>e.elim)
      have hm:=List.getElem_mem hk
      simp only[List.length_cons,List.length_nil]at hi
      rcases Nat.lt_or_ge i 1 with h0|h0
      · obtain rfl:i=0:=by omega
        exact zy _ w' ((HX.out.row.2.2.2.2 _ hm).later hgw)
      skip
      obtain rfl:i=1:=by omega
      exact rY _ w' ((HX.out.row.2.2.2.2 _ hm).later hgw)))
     simp only[ae.val]at HK
     go_wp2_with fail
     refine HK.out.mono ?_
     rintro e w3 ⟨rfl,hg3⟩
     have aA:=Lib.hid (Mv.trans bE.out hg3 (λ_ e=>e.elim))
     clear hg3
     go_wp2_with fail
     go_ret
     exact⟨aV HR.out.symm,aA.out⟩
 have xU:k≠40:=by omega
 have Qm:k≠41:=by omega
 have Qn:k≠42:=by omega
 have Au:k≠56:=by omega
 clear hG
 by_cases h43:k=43
 · subst h43
   have HG:=Lib.hid (show Grow w (w.alloc (.cells #[.int .u8 43,.int .i64 n,.string s,.slice a l.length cap] 40))from(Mv.refl _ _).alloc _)
   have HB:=Lib.hid (heap_alloc_new w (.cells #[.int .u8 43,.int .i64 n,.string s,.slice a l.length cap] 40))
   have eY:=Lib.hid (wO 43 n s a l cap (w.alloc (.cells #[.int .u8 43,.int .i64 n,.string s,.slice a l.length cap] 40)))
   have dh:=Lib.hid (show dO n s=false->aW (.mk 43 n s (ae.ts l))=false from λh=>by simp[aW,h])
   have eQ:=Lib.hid (show dO n s=true->aW (.mk 43 n s (ae.ts l))=aY [fH,fH] (ae.ts l)from λh=>by simp[aW,h,qD,qE,qF,qA,qG])
   go_enter Tryz.func72,Tryz.ntmps72
   go_wp2_with fail
   refine eY.out.mono ?_
   rintro e w2 ⟨rfl,hg2⟩
   have HG2:=Lib.hid (Mv.trans HG.out hg2 (λ_ e=>e.elim))
   have hb2:=ah HB.out hg2
   obtain⟨m0,m1,m2,m3⟩:=fV hb2
   have hlb:=lt_of_block hb2
   clear hg2 hb2
   generalize dO n s=pb at *
   cases pb with
   |false =>
    have HR:=Lib.hid (dh.out rfl)
    go_wp2_with fail
    go_ret
    exact⟨aV HR.out.symm,HG2.out⟩
   |true =>
    have HR:=Lib.hid (eQ.out rfl)
    have bE:=Lib.hid (HG2.out.alloc (.cells #[.func (.func 94) #[] #[],.func (.func 94) #[] #[]] 65))
    have HK:=Lib.hid (qC 43 n s (.slice a l.length cap) l [94,94] [fH,fH] (.slice (some ⟨w2.heap.size,0,none⟩) 2 2) (w2.alloc (.cells #[.func (.func 94) #[] #[],.func (.func 94) #[] #[]] 65)) (HX.out.later bE.out) (ay.dF (l:=[94,94]) (λ_=>rfl) (heap_alloc_new w2 _) rfl (by simp)) rfl (by decide) (λi hi hk hp w' hg=>by
     have hgw:=Mv.trans bE.out hg (λ_ e=>e.elim)
     have hm:=List.getElem_mem hk
     simp only[List.length_cons,List.length_nil]at hi
     rcases Nat.lt_or_ge i 1 with h0|h0
     · obtain rfl:i=0:=by omega
       exact zy _ w' ((HX.out.row.2.2.2.2 _ hm).later hgw)
     skip
     obtain rfl:i=1:=by omega
     exact zy _ w' ((HX.out.row.2.2.2.2 _ hm).later hgw)))
    simp only[ae.val]at HK
    go_wp2_with fail
    refine HK.out.mono ?_
    rintro e w3 ⟨rfl,hg3⟩
    have aA:=Lib.hid (Mv.trans bE.out hg3 (λ_ e=>e.elim))
    clear hg3
    go_wp2_with fail
    go_ret
    exact⟨aV HR.out.symm,aA.out⟩
 by_cases hG:k=44\/k=45
 · have HG:=Lib.hid (show Grow w (w.alloc (.cells #[.int .u8 k,.int .i64 n,.string s,.slice a l.length cap] 40))from(Mv.refl _ _).alloc _)
   have HB:=Lib.hid (heap_alloc_new w (.cells #[.int .u8 k,.int .i64 n,.string s,.slice a l.length cap] 40))
   have eY:=Lib.hid (wP k n s a l cap (w.alloc (.cells #[.int .u8 k,.int .i64 n,.string s,.slice a l.length cap] 40)) hs)
   have dh:=Lib.hid (show ed n s=false->aW (.mk k n s (ae.ts l))=false from λh=>by rcases hG with rfl|rfl <;> simp[aW,h])
   have eQ:=Lib.hid (show ed n s=true->aW (.mk k n s (ae.ts l))=aY [fH] (ae.ts l)from λh=>by rcases hG with rfl|rfl <;> simp[aW,h,qD,qE,qF,qA,qG])
   rcases hG with rfl|rfl
   all_goals
    go_enter Tryz.func72,Tryz.ntmps72
    go_wp2_with fail
    refine eY.out.mono ?_
    rintro e w2 ⟨rfl,hg2⟩
    have HG2:=Lib.hid (Mv.trans HG.out hg2 (λ_ e=>e.elim))
    have hb2:=ah HB.out hg2
    obtain⟨m0,m1,m2,m3⟩:=fV hb2
    have hlb:=lt_of_block hb2
    clear hg2 hb2
    generalize ed n s=pb at *
    cases pb with
    |false =>
     have HR:=Lib.hid (dh.out rfl)
     go_wp2_with fail
     go_ret
     exact⟨aV HR.out.symm,HG2.out⟩
    |true =>
     have HR:=Lib.hid (eQ.out rfl)
     have bE:=Lib.hid (HG2.out.alloc (.cells #[.func (.func 94) #[] #[]] 65))
     have HK:=Lib.hid (qC _ n s (.slice a l.length cap) l [94] [fH] (.slice (some ⟨w2.heap.size,0,none⟩) 1 1) (w2.alloc (.cells #[.func (.func 94) #[] #[]] 65)) (HX.out.later bE.out) (ay.dF (l:=[94]) (λ_=>rfl) (heap_alloc_new w2 _) rfl (by simp)) rfl (by decide) (λi hi hk hp w' hg=>by
      have hgw:=Mv.trans bE.out hg (λ_ e=>e.elim)
      have hm:=List.getElem_mem hk
      simp only[List.length_cons,List.length_nil]at hi
      skip
      obtain rfl:i=0:=by omega
      exact zy _ w' ((HX.out.row.2.2.2.2 _ hm).later hgw)))
     simp only[ae.val]at HK
     go_wp2_with fail
     refine HK.out.mono ?_
     rintro e w3 ⟨rfl,hg3⟩
     have aA:=Lib.hid (Mv.trans bE.out hg3 (λ_ e=>e.elim))
     clear hg3
     go_wp2_with fail
     go_ret
     exact⟨aV HR.out.symm,aA.out⟩
 have xV:k≠44:=by omega
 have h45:k≠45:=by omega
 clear hG
 by_cases hG:k=46\/k=47\/k=48\/k=49
 · have HG:=Lib.hid (show Grow w (w.alloc (.cells #[.int .u8 k,.int .i64 n,.string s,.slice a l.length cap] 40))from(Mv.refl _ _).alloc _)
   have HB:=Lib.hid (heap_alloc_new w (.cells #[.int .u8 k,.int .i64 n,.string s,.slice a l.length cap] 40))
   have eY:=Lib.hid (wO k n s a l cap (w.alloc (.cells #[.int .u8 k,.int .i64 n,.string s,.slice a l.length cap] 40)))
   have dh:=Lib.hid (show dO n s=false->aW (.mk k n s (ae.ts l))=false from λh=>by rcases hG with rfl|rfl|rfl|rfl <;> simp[aW,h])
   have eQ:=Lib.hid (show dO n s=true->aW (.mk k n s (ae.ts l))=aY [fH] (ae.ts l)from λh=>by rcases hG with rfl|rfl|rfl|rfl <;> simp[aW,h,qD,qE,qF,qA,qG])
   rcases hG with rfl|rfl|rfl|rfl
   all_goals
    go_enter Tryz.func72,Tryz.ntmps72
    go_wp2_with fail
    refine eY.out.mono ?_
    rintro e w2 ⟨rfl,hg2⟩
    have HG2:=Lib.hid (Mv.trans HG.out hg2 (λ_ e=>e.elim))
    have hb2:=ah HB.out hg2
    obtain⟨m0,m1,m2,m3⟩:=fV hb2
    have hlb:=lt_of_block hb2
    clear hg2 hb2
    generalize dO n s=pb at *
    cases pb with
    |false =>
     have HR:=Lib.hid (dh.out rfl)
     go_wp2_with fail
     go_ret
     exact⟨aV HR.out.symm,HG2.out⟩
    |true =>
     have HR:=Lib.hid (eQ.out rfl)
     have bE:=Lib.hid (HG2.out.alloc (.cells #[.func (.func 94) #[] #[]] 65))
     have HK:=Lib.hid (qC _ n s (.slice a l.length cap) l [94] [fH] (.slice (some ⟨w2.heap.size,0,none⟩) 1 1) (w2.alloc (.cells #[.func (.func 94) #[] #[]] 65)) (HX.out.later bE.out) (ay.dF (l:=[94]) (λ_=>rfl) (heap_alloc_new w2 _) rfl (by simp)) rfl (by decide) (λi hi hk hp w' hg=>by
      have hgw:=Mv.trans bE.out hg (λ_ e=>e.elim)
      have hm:=List.getElem_mem hk
      simp only[List.length_cons,List.length_nil]at hi
      skip
      obtain rfl:i=0:=by omega
      exact zy _ w' ((HX.out.row.2.2.2.2 _ hm).later hgw)))
     simp only[ae.val]at HK
     go_wp2_with fail
     refine HK.out.mono ?_
     rintro e w3 ⟨rfl,hg3⟩
     have aA:=Lib.hid (Mv.trans bE.out hg3 (λ_ e=>e.elim))
     clear hg3
     go_wp2_with fail
     go_ret
     exact⟨aV HR.out.symm,aA.out⟩
 have h46:k≠46:=by omega
 have h47:k≠47:=by omega
 have h48:k≠48:=by omega
 have Qo:k≠49:=by omega
 clear hG
 by_cases h50:k=50
 · subst h50
   have HG:=Lib.hid (show Grow w (w.alloc (.cells #[.int .u8 50,.int .i64 n,.string s,.slice a l.length cap] 40))from(Mv.refl _ _).alloc _)
   have HB:=Lib.hid (heap_alloc_new w (.cells #[.int .u8 50,.int .i64 n,.string s,.slice a l.length cap] 40))
   have eY:=Lib.hid (wP 50 n s a l cap (w.alloc (.cells #[.int .u8 50,.int .i64 n,.string s,.slice a l.length cap] 40)) hs)
   have dh:=Lib.hid (show ed n s=false->aW (.mk 50 n s (ae.ts l))=false from λh=>by simp[aW,h])
   have eQ:=Lib.hid (show ed n s=true->aW (.mk 50 n s (ae.ts l))=(decide (l.length<=8) && (ae.ts l).all lM)from λh=>by simp[aW,h,ae.bX])
   go_enter Tryz.func72,Tryz.ntmps72
   go_wp2_with fail
   refine eY.out.mono ?_
   rintro e w2 ⟨rfl,hg2⟩
   have HG2:=Lib.hid (Mv.trans HG.out hg2 (λ_ e=>e.elim))
   have hb2:=ah HB.out hg2
   obtain⟨m0,m1,m2,m3⟩:=fV hb2
   have hlb:=lt_of_block hb2
   clear hg2 hb2
   generalize ed n s=pb at *
   cases pb with
   |false =>
    have HR:=Lib.hid (dh.out rfl)
    go_wp2_with fail
    go_ret
    exact⟨aV HR.out.symm,HG2.out⟩
   |true =>
    by_cases h8:l.length<=8
    · have HR:=Lib.hid (show aW (.mk 50 n s (ae.ts l))=(ae.ts l).all lM from by rw[eQ.out rfl];simp[h8])
      have HE:=Lib.hid (Gy (.slice a l.length cap) l 97 lM w2 (HX.out.row.2.2.2.1.later HG2.out) (λx hx=>(HX.out.row.2.2.2.2 x hx).later HG2.out) (.inr rfl) (λx hx w' hg=>Lp x w' ((HX.out.row.2.2.2.2 x hx).later (Mv.trans HG2.out hg (λ_ e=>e.elim)))))
      go_wp2_with fail
      refine HE.out.mono ?_
      rintro e w3 ⟨rfl,hg3⟩
      have aA:=Lib.hid (Mv.trans HG2.out hg3 (λ_ e=>e.elim))
      clear hg3
      go_wp2_with fail
      go_ret
      exact⟨aV HR.out.symm,aA.out⟩
    · have HR:=Lib.hid (show aW (.mk 50 n s (ae.ts l))=false from by rw[eQ.out rfl];simp[h8])
      go_wp2_with fail
      go_ret
      exact⟨aV HR.out.symm,HG2.out⟩
 by_cases I8:k=51
 · subst I8
   have HG:=Lib.hid (show Grow w (w.alloc (.cells #[.int .u8 51,.int .i64 n,.string s,.slice a l.length cap] 40))from(Mv.refl _ _).alloc _)
   have HB:=Lib.hid (heap_alloc_new w (.cells #[.int .u8 51,.int .i64 n,.string s,.slice a l.length cap] 40))
   have eY:=Lib.hid (wP 51 n s a l cap (w.alloc (.cells #[.int .u8 51,.int .i64 n,.string s,.slice a l.length cap] 40)) hs)
   have dh:=Lib.hid (show ed n s=false->aW (.mk 51 n s (ae.ts l))=false from λh=>by simp[aW,h])
   have eQ:=Lib.hid (show ed n s=true->aW (.mk 51 n s (ae.ts l))=(decide (l.length<=8) && (ae.ts l).all lM)from λh=>by simp[aW,h,ae.bX])
   go_enter Tryz.func72,Tryz.ntmps72
   go_wp2_with fail
   refine eY.out.mono ?_
   rintro e w2 ⟨rfl,hg2⟩
   have HG2:=Lib.hid (Mv.trans HG.out hg2 (λ_ e=>e.elim))
   have hb2:=ah HB.out hg2
   obtain⟨m0,m1,m2,m3⟩:=fV hb2
   have hlb:=lt_of_block hb2
   clear hg2 hb2
   generalize ed n s=pb at *
   cases pb with
   |false =>
    have HR:=Lib.hid (dh.out rfl)
    go_wp2_with fail
    go_ret
    exact⟨aV HR.out.symm,HG2.out⟩
   |true =>
    by_cases h8:l.length<=8
    · have HR:=Lib.hid (show aW (.mk 51 n s (ae.ts l))=(ae.ts l).all lM from by rw[eQ.out rfl];simp[h8])
      have HE:=Lib.hid (Gy (.slice a l.length cap) l 97 lM w2 (HX.out.row.2.2.2.1.later HG2.out) (λx hx=>(HX.out.row.2.2.2.2 x hx).later HG2.out) (.inr rfl) (λx hx w' hg=>Lp x w' ((HX.out.row.2.2.2.2 x hx).later (Mv.trans HG2.out hg (λ_ e=>e.elim)))))
      go_wp2_with fail
      refine HE.out.mono ?_
      rintro e w3 ⟨rfl,hg3⟩
      have aA:=Lib.hid (Mv.trans HG2.out hg3 (λ_ e=>e.elim))
      clear hg3
      go_wp2_with fail
      go_ret
      exact⟨aV HR.out.symm,aA.out⟩
    · have HR:=Lib.hid (show aW (.mk 51 n s (ae.ts l))=false from by rw[eQ.out rfl];simp[h8])
      go_wp2_with fail
      go_ret
      exact⟨aV HR.out.symm,HG2.out⟩
 by_cases hG:k=52\/k=53
 · have HG:=Lib.hid (show Grow w (w.alloc (.cells #[.int .u8 k,.int .i64 n,.string s,.slice a l.length cap] 40))from(Mv.refl _ _).alloc _)
   have HB:=Lib.hid (heap_alloc_new w (.cells #[.int .u8 k,.int .i64 n,.string s,.slice a l.length cap] 40))
   have eY:=Lib.hid (wO k n s a l cap (w.alloc (.cells #[.int .u8 k,.int .i64 n,.string s,.slice a l.length cap] 40)))
   have dh:=Lib.hid (show dO n s=false->aW (.mk k n s (ae.ts l))=false from λh=>by rcases hG with rfl|rfl <;> simp[aW,h])
   have eQ:=Lib.hid (show dO n s=true->aW (.mk k n s (ae.ts l))=aY [aJ,dM,dM,aJ] (ae.ts l)from λh=>by rcases hG with rfl|rfl <;> simp[aW,h,qD,qE,qF,qA,qG])
   rcases hG with rfl|rfl
   all_goals
    go_enter Tryz.func72,Tryz.ntmps72
    go_wp2_with fail
    refine eY.out.mono ?_
    rintro e w2 ⟨rfl,hg2⟩
    have HG2:=Lib.hid (Mv.trans HG.out hg2 (λ_ e=>e.elim))
    have hb2:=ah HB.out hg2
    obtain⟨m0,m1,m2,m3⟩:=fV hb2
    have hlb:=lt_of_block hb2
    clear hg2 hb2
    generalize dO n s=pb at *
    cases pb with
    |false =>
     have HR:=Lib.hid (dh.out rfl)
     go_wp2_with fail
     go_ret
     exact⟨aV HR.out.symm,HG2.out⟩
    |true =>
     have HR:=Lib.hid (eQ.out rfl)
     have bE:=Lib.hid (HG2.out.alloc (.cells #[.func (.func 95) #[] #[],.func (.func 49) #[] #[],.func (.func 49) #[] #[],.func (.func 95) #[] #[]] 65))
     have HK:=Lib.hid (qC _ n s (.slice a l.length cap) l [95,49,49,95] [aJ,dM,dM,aJ] (.slice (some ⟨w2.heap.size,0,none⟩) 4 4) (w2.alloc (.cells #[.func (.func 95) #[] #[],.func (.func 49) #[] #[],.func (.func 49) #[] #[],.func (.func 95) #[] #[]] 65)) (HX.out.later bE.out) (ay.dF (l:=[95,49,49,95]) (λ_=>rfl) (heap_alloc_new w2 _) rfl (by simp)) rfl (by decide) (λi hi hk hp w' hg=>by
      have hgw:=Mv.trans bE.out hg (λ_ e=>e.elim)
      have hm:=List.getElem_mem hk
      simp only[List.length_cons,List.length_nil]at hi
      rcases Nat.lt_or_ge i 1 with h0|h0
      · obtain rfl:i=0:=by omega
        exact rY _ w' ((HX.out.row.2.2.2.2 _ hm).later hgw)
      rcases Nat.lt_or_ge i 2 with h1|h1
      · obtain rfl:i=1:=by omega
        exact xS.out _ hm w' hgw
      rcases Nat.lt_or_ge i 3 with h2|h2
      · obtain rfl:i=2:=by omega
        exact xS.out _ hm w' hgw
      skip
      obtain rfl:i=3:=by omega
      exact rY _ w' ((HX.out.row.2.2.2.2 _ hm).later hgw)))
     simp only[ae.val]at HK
     go_wp2_with fail
     refine HK.out.mono ?_
     rintro e w3 ⟨rfl,hg3⟩
     have aA:=Lib.hid (Mv.trans bE.out hg3 (λ_ e=>e.elim))
     clear hg3
     go_wp2_with fail
     go_ret
     exact⟨aV HR.out.symm,aA.out⟩
 have CL:k≠52:=by omega
 have CO:k≠53:=by omega
 clear hG
 by_cases I9:k=54
 · subst I9
   have HG:=Lib.hid (show Grow w (w.alloc (.cells #[.int .u8 54,.int .i64 n,.string s,.slice a l.length cap] 40))from(Mv.refl _ _).alloc _)
   have HB:=Lib.hid (heap_alloc_new w (.cells #[.int .u8 54,.int .i64 n,.string s,.slice a l.length cap] 40))
   have eY:=Lib.hid (wP 54 n s a l cap (w.alloc (.cells #[.int .u8 54,.int .i64 n,.string s,.slice a l.length cap] 40)) hs)
   have dh:=Lib.hid (show ed n s=false->aW (.mk 54 n s (ae.ts l))=false from λh=>by simp[aW,h])
   have eQ:=Lib.hid (show ed n s=true->aW (.mk 54 n s (ae.ts l))=aY [aJ,dM,aJ] (ae.ts l)from λh=>by simp[aW,h,qD,qE,qF,qA,qG])
   go_enter Tryz.func72,Tryz.ntmps72
   go_wp2_with fail
   refine eY.out.mono ?_
   rintro e w2 ⟨rfl,hg2⟩
   have HG2:=Lib.hid (Mv.trans HG.out hg2 (λ_ e=>e.elim))
   have hb2:=ah HB.out hg2
   obtain⟨m0,m1,m2,m3⟩:=fV hb2
   have hlb:=lt_of_block hb2
   clear hg2 hb2
   generalize ed n s=pb at *
   cases pb with
   |false =>
    have HR:=Lib.hid (dh.out rfl)
    go_wp2_with fail
    go_ret
    exact⟨aV HR.out.symm,HG2.out⟩
   |true =>
    have HR:=Lib.hid (eQ.out rfl)
    have bE:=Lib.hid (HG2.out.alloc (.cells #[.func (.func 95) #[] #[],.func (.func 49) #[] #[],.func (.func 95) #[] #[]] 65))
    have HK:=Lib.hid (qC 54 n s (.slice a l.length cap) l [95,49,95] [aJ,dM,aJ] (.slice (some ⟨w2.heap.size,0,none⟩) 3 3) (w2.alloc (.cells #[.func (.func 95) #[] #[],.func (.func 49) #[] #[],.func (.func 95) #[] #[]] 65)) (HX.out.later bE.out) (ay.dF (l:=[95,49,95]) (λ_=>rfl) (heap_alloc_new w2 _) rfl (by simp)) rfl (by decide) (λi hi hk hp w' hg=>by
     have hgw:=Mv.trans bE.out hg (λ_ e=>e.elim)
     have hm:=List.getElem_mem hk
     simp only[List.length_cons,List.length_nil]at hi
     rcases Nat.lt_or_ge i 1 with h0|h0
     · obtain rfl:i=0:=by omega
       exact rY _ w' ((HX.out.row.2.2.2.2 _ hm).later hgw)
     rcases Nat.lt_or_ge i 2 with h1|h1
     · obtain rfl:i=1:=by omega
       exact xS.out _ hm w' hgw
     skip
     obtain rfl:i=2:=by omega
     exact rY _ w' ((HX.out.row.2.2.2.2 _ hm).later hgw)))
    simp only[ae.val]at HK
    go_wp2_with fail
    refine HK.out.mono ?_
    rintro e w3 ⟨rfl,hg3⟩
    have aA:=Lib.hid (Mv.trans bE.out hg3 (λ_ e=>e.elim))
    clear hg3
    go_wp2_with fail
    go_ret
    exact⟨aV HR.out.symm,aA.out⟩
 by_cases Av:k=55
 · subst Av
   have HG:=Lib.hid (show Grow w (w.alloc (.cells #[.int .u8 55,.int .i64 n,.string s,.slice a l.length cap] 40))from(Mv.refl _ _).alloc _)
   have HB:=Lib.hid (heap_alloc_new w (.cells #[.int .u8 55,.int .i64 n,.string s,.slice a l.length cap] 40))
   have eY:=Lib.hid (wP 55 n s a l cap (w.alloc (.cells #[.int .u8 55,.int .i64 n,.string s,.slice a l.length cap] 40)) hs)
   have dh:=Lib.hid (show ed n s=false->aW (.mk 55 n s (ae.ts l))=false from λh=>by simp[aW,h])
   have eQ:=Lib.hid (show ed n s=true->aW (.mk 55 n s (ae.ts l))=aY [dM] (ae.ts l)from λh=>by simp[aW,h,qD,qE,qF,qA,qG])
   go_enter Tryz.func72,Tryz.ntmps72
   go_wp2_with fail
   refine eY.out.mono ?_
   rintro e w2 ⟨rfl,hg2⟩
   have HG2:=Lib.hid (Mv.trans HG.out hg2 (λ_ e=>e.elim))
   have hb2:=ah HB.out hg2
   obtain⟨m0,m1,m2,m3⟩:=fV hb2
   have hlb:=lt_of_block hb2
   clear hg2 hb2
   generalize ed n s=pb at *
   cases pb with
   |false =>
    have HR:=Lib.hid (dh.out rfl)
    go_wp2_with fail
    go_ret
    exact⟨aV HR.out.symm,HG2.out⟩
   |true =>
    have HR:=Lib.hid (eQ.out rfl)
    have bE:=Lib.hid (HG2.out.alloc (.cells #[.func (.func 49) #[] #[]] 65))
    have HK:=Lib.hid (qC 55 n s (.slice a l.length cap) l [49] [dM] (.slice (some ⟨w2.heap.size,0,none⟩) 1 1) (w2.alloc (.cells #[.func (.func 49) #[] #[]] 65)) (HX.out.later bE.out) (ay.dF (l:=[49]) (λ_=>rfl) (heap_alloc_new w2 _) rfl (by simp)) rfl (by decide) (λi hi hk hp w' hg=>by
     have hgw:=Mv.trans bE.out hg (λ_ e=>e.elim)
     have hm:=List.getElem_mem hk
     simp only[List.length_cons,List.length_nil]at hi
     skip
     obtain rfl:i=0:=by omega
     exact xS.out _ hm w' hgw))
    simp only[ae.val]at HK
    go_wp2_with fail
    refine HK.out.mono ?_
    rintro e w3 ⟨rfl,hg3⟩
    have aA:=Lib.hid (Mv.trans bE.out hg3 (λ_ e=>e.elim))
    clear hg3
    go_wp2_with fail
    go_ret
    exact⟨aV HR.out.symm,aA.out⟩
 have abO:(k == 40)=false:=by simp;omega
 have abP:(k == 41)=false:=by simp;omega
 have abQ:(k == 42)=false:=by simp;omega
 have abR:(k == 43)=false:=by simp;omega
 have abS:(k == 44)=false:=by simp;omega
 have abT:(k == 45)=false:=by simp;omega
 have abU:(k == 46)=false:=by simp;omega
 have abV:(k == 47)=false:=by simp;omega
 have abW:(k == 48)=false:=by simp;omega
 have abX:(k == 49)=false:=by simp;omega
 have abY:(k == 50)=false:=by simp;omega
 have abZ:(k == 51)=false:=by simp;omega
 have ab0:(k == 52)=false:=by simp;omega
 have ab1:(k == 53)=false:=by simp;omega
 have ab2:(k == 54)=false:=by simp;omega
 have ab3:(k == 55)=false:=by simp;omega
 have ab4:(k == 56)=false:=by simp;omega
 have HG:=Lib.hid (show Grow w (w.alloc (.cells #[.int .u8 k,.int .i64 n,.string s,.slice a l.length cap] 40))from(Mv.refl _ _).alloc _)
 have HR:=Lib.hid (show aW (.mk k n s (ae.ts l))=false from by simp[aW,xU,Qm,Qn,h43,xV,h45,h46,h47,h48,Qo,h50,I8,CL,CO,I9,Av,Au])
 clear xU Qm Qn h43 xV h45 h46 h47 h48 Qo h50 I8 CL CO I9 Av Au
 go_enter Tryz.func72,Tryz.ntmps72
 go_wp2_with fail
 go_ret
 exact⟨aV HR.out.symm,HG.out⟩
theorem DX:∀ m:Nat,GU m/\Gz m
 |0=>⟨λx hm=>by cases x;simp at hm,λx hm=>by cases x;simp at hm⟩
 |m+1=>⟨TQ m (DX m).2,Ty m (DX m).1⟩
theorem Ut (x:ae) (w:World) (h:bD w x):Calls Tryz.prog 72 #[x.val] w (eP w (aW x.t)):=(DX _).1 x (Nat.le_refl _) w h
theorem TR (x:ae) (w:World) (h:bD w x):Calls Tryz.prog 49 #[x.val] w (eP w (dM x.t)):=(DX _).2 x (Nat.le_refl _) w h
end Go.Proofs.YtbpodipdfohikaaGreat
