import Derived.Test.YtnobahchcongnaaGreatDoorR06
set_option linter.unusedSimpArgs false
set_option linter.unusedVariables false
set_option maxRecDepth 100000
set_option maxHeartbeats 25600000
namespace Go.Proofs.YtnobahchcongnaaGreatDoor
open Go.RowKit Go.Instr
theorem uX (l:List Tree):bI [aN] l=(l.length == 1 && jv l):=by
 match l with
 | []=>rfl
 | [t]=>simp[bI,jv]
 |_ :: _ :: _=>simp[bI]
theorem uY (l:List Tree):bI [aN,aN] l=(l.length == 2 && jv l):=by
 match l with
 | []=>rfl
 | [t]=>simp[bI]
 | [t,u]=>simp[bI,jv]
 |_ :: _ :: _ :: _=>simp[bI]
theorem uZ (l:List Tree):bI [aN,bF,bF,aN] l=(bI [aN,λ_=>true,λ_=>true,aN] l && ((jC l)[1]?.getD false && (jC l)[2]?.getD false)):=by
 match l with
 | []=>rfl
 | [_]=>simp[bI]
 | [_,_]=>simp[bI]
 | [_,_,_]=>simp[bI]
 | [a,b,c,d] =>
  simp only[bI,Hg,List.map_cons,List.map_nil,List.getElem?_cons_succ,List.getElem?_cons_zero,Option.getD_some,Bool.and_true,Bool.true_and];cases aN a <;> cases bF b <;> cases bF c <;> cases aN d <;> rfl
 |_ :: _ :: _ :: _ :: _ :: _=>simp[bI]
theorem uV (l:List Tree):bI [aN,bF,aN] l=(bI [aN,λ_=>true,aN] l && (jC l)[1]?.getD false):=by
 match l with
 | []=>rfl
 | [_]=>simp[bI]
 | [_,_]=>simp[bI]
 | [a,b,c] =>
  simp only[bI,Hg,List.map_cons,List.map_nil,List.getElem?_cons_succ,List.getElem?_cons_zero,Option.getD_some,Bool.and_true,Bool.true_and];cases aN a <;> cases bF b <;> cases aN c <;> rfl
 |_ :: _ :: _ :: _ :: _=>simp[bI]
theorem ve (l:List Tree):bI [bF] l=(l.length == 1 && (jC l)[0]?.getD false):=by
 match l with
 | []=>rfl
 | [t]=>simp[bI,Hg]
 |_ :: _ :: _=>simp[bI]
theorem Yn:∀ (m:Nat) (x:ae),SizeOf.sizeOf x<=m->∀ w:World,aR w x->Calls Tryz.prog 57 #[x.val] w (jy w (aN x.t)):=by
 intro m
 induction m with
 |zero=>intro x hm;cases x;simp at hm
 |succ m ih =>
  intro x hm w hx;obtain⟨k,n,s,kv,l⟩:=x;obtain⟨a,cap,rfl,hcap,hlen⟩:=hx.form;obtain⟨hk1,hk2⟩:=hx.row.1;have hs:=hx.row.2.2.1;have HX:=ł hx;have iB:=ł (λ(y:ae) (hy:y∈l) (w':World) (hg:Grow w w')=>ih y (by have:=ng (k:=k) (n:=n) (s:=s) (kv := .slice a l.length cap) hy;omega) w' ((hx.row.2.2.2.2 y hy).later hg));clear ih hm hx;simp only[ae.val,ae.t];by_cases h1:k=1
  · subst h1;have HG:=ł (show Grow w (w.alloc (.cells #[.int .u8 1,.int .i64 n,.string s,.slice a l.length cap] 24))from(Mv.refl _ _).alloc _);by_cases hn0:0<=n
    · by_cases hs0:s.size=0
      · have hemp:=Pq hs0;cases l with
        |nil =>
         have HR:=ł (show aN (.mk 1 n s (ae.ts []))=true from by simp[aN,hn0,hs0,ae.ts]);simp only[List.length_nil]at HG ⊢;clear hs0
         go_enter Tryz.func57,Tryz.ntmps57
         go_wp2_with fail;go_ret;exact⟨aK HR.out.symm,HG.out⟩
        |cons x r =>
         have HR:=ł (show aN (.mk 1 n s (ae.ts (x :: r)))=false from by simp[aN,ae.ts]);have hl1:((r.length+1:Nat) == 0)=false:=by simp
         simp only[List.length_cons]at HG ⊢;clear hs0
         go_enter Tryz.func57,Tryz.ntmps57
         go_wp2_with fail;go_ret;exact⟨aK HR.out.symm,HG.out⟩
      · have hne:=Dn (s:=s) (by omega);have HR:=ł (show aN (.mk 1 n s (ae.ts l))=false from by simp[aN,hs0]);clear hs0
        go_enter Tryz.func57,Tryz.ntmps57
        go_wp2_with fail;go_ret;exact⟨aK HR.out.symm,HG.out⟩
    · have HR:=ł (show aN (.mk 1 n s (ae.ts l))=false from by simp[aN,hn0])
      go_enter Tryz.func57,Tryz.ntmps57
      go_wp2_with fail;go_ret;exact⟨aK HR.out.symm,HG.out⟩
  by_cases hG:k=2\/k=4\/k=5
  · have HG:=ł (show Grow w (w.alloc (.cells #[.int .u8 k,.int .i64 n,.string s,.slice a l.length cap] 24))from(Mv.refl _ _).alloc _);have HB:=ł (heap_alloc_new w (.cells #[.int .u8 k,.int .i64 n,.string s,.slice a l.length cap] 24));have dY:=ł (zX k n s a l cap (w.alloc (.cells #[.int .u8 k,.int .i64 n,.string s,.slice a l.length cap] 24)) hs);have iC:=ł (show fO n s=false->aN (.mk k n s (ae.ts l))=false from λh=>by rcases hG with rfl|rfl|rfl <;> simp[aN,h]);have dQ:=ł (show fO n s=true->aN (.mk k n s (ae.ts l))=l.isEmpty from λh=>by rcases hG with rfl|rfl|rfl <;> simp[aN,h,ae.gV]);rcases hG with rfl|rfl|rfl
    all_goals
     go_enter Tryz.func57,Tryz.ntmps57
     go_wp2_with fail;refine dY.out.mono ?_;rintro e w2 ⟨rfl,hg2⟩;have HG2:=ł (Mv.trans HG.out hg2 (λ_ e=>e.elim));have hb2:=ai HB.out hg2;obtain⟨m0,m1,m2,m3⟩:=dN hb2;have hlb:=lt_of_block hb2;clear hg2 hb2;generalize fO n s=pb at *;cases pb with
     |false =>
      have HR:=ł (iC.out rfl);go_wp2_with fail;go_ret;exact⟨aK HR.out.symm,HG2.out⟩
     |true =>
      have HR:=ł (dQ.out rfl);cases l with
      |nil =>
       simp only[List.length_nil]at m3 ⊢;go_wp2_with fail;go_ret;exact⟨aK HR.out.symm,HG2.out⟩
      |cons x r =>
       have hl1:((r.length+1:Nat) == 0)=false:=by simp
       simp only[List.length_cons]at m3 ⊢;go_wp2_with fail;go_ret;exact⟨aK HR.out.symm,HG2.out⟩
  have h2:k≠2:=by omega
  have h4:k≠4:=by omega
  have h5:k≠5:=by omega
  clear hG;by_cases h3:k=3
  · subst h3;have HG:=ł (show Grow w (w.alloc (.cells #[.int .u8 3,.int .i64 n,.string s,.slice a l.length cap] 24))from(Mv.refl _ _).alloc _);have HB:=ł (heap_alloc_new w (.cells #[.int .u8 3,.int .i64 n,.string s,.slice a l.length cap] 24));have dY:=ł (zX 3 n s a l cap (w.alloc (.cells #[.int .u8 3,.int .i64 n,.string s,.slice a l.length cap] 24)) hs);have iC:=ł (show fO n s=false->aN (.mk 3 n s (ae.ts l))=false from λh=>by simp[aN,h]);have dQ:=ł (show fO n s=true->aN (.mk 3 n s (ae.ts l))=bI [aN] (ae.ts l)from λh=>by simp[aN,h,uX,uY,uZ,uV,ve])
    go_enter Tryz.func57,Tryz.ntmps57
    go_wp2_with fail;refine dY.out.mono ?_;rintro e w2 ⟨rfl,hg2⟩;have HG2:=ł (Mv.trans HG.out hg2 (λ_ e=>e.elim));have hb2:=ai HB.out hg2;obtain⟨m0,m1,m2,m3⟩:=dN hb2;have hlb:=lt_of_block hb2;clear hg2 hb2;generalize fO n s=pb at *;cases pb with
    |false =>
     have HR:=ł (iC.out rfl);go_wp2_with fail;go_ret;exact⟨aK HR.out.symm,HG2.out⟩
    |true =>
     have HR:=ł (dQ.out rfl);have aM:=ł (HG2.out.alloc (.cells #[.func (.func 57) #[] #[]] 44));have HK:=ł (uW 3 n s (.slice a l.length cap) l [57] [aN] (.slice (some ⟨w2.heap.size,0,none⟩) 1 1) (w2.alloc (.cells #[.func (.func 57) #[] #[]] 44)) (HX.out.later aM.out) (az.bO (l:=[57]) (λ_=>rfl) (heap_alloc_new w2 _) rfl (by simp)) rfl (by decide) (λi hi hk hp w' hg=>by
      have hgw:=Mv.trans aM.out hg (λ_ e=>e.elim);have hm:=List.getElem_mem hk;simp only[List.length_cons,List.length_nil]at hi
      skip
      obtain rfl:i=0:=by omega
      exact iB.out _ hm w' hgw))
     simp only[ae.val]at HK;go_wp2_with fail;refine HK.out.mono ?_;rintro e w3 ⟨rfl,hg3⟩;have aH:=ł (Mv.trans aM.out hg3 (λ_ e=>e.elim));clear hg3;go_wp2_with fail;go_ret;exact⟨aK HR.out.symm,aH.out⟩
  by_cases hG:k=6\/k=7
  · have HG:=ł (show Grow w (w.alloc (.cells #[.int .u8 k,.int .i64 n,.string s,.slice a l.length cap] 24))from(Mv.refl _ _).alloc _);have HB:=ł (heap_alloc_new w (.cells #[.int .u8 k,.int .i64 n,.string s,.slice a l.length cap] 24));have dY:=ł (zW k n s a l cap (w.alloc (.cells #[.int .u8 k,.int .i64 n,.string s,.slice a l.length cap] 24)));have iC:=ł (show eZ n s=false->aN (.mk k n s (ae.ts l))=false from λh=>by rcases hG with rfl|rfl <;> simp[aN,h]);have dQ:=ł (show eZ n s=true->aN (.mk k n s (ae.ts l))=bI [aN] (ae.ts l)from λh=>by rcases hG with rfl|rfl <;> simp[aN,h,uX,uY,uZ,uV,ve]);rcases hG with rfl|rfl
    all_goals
     go_enter Tryz.func57,Tryz.ntmps57
     go_wp2_with fail;refine dY.out.mono ?_;rintro e w2 ⟨rfl,hg2⟩;have HG2:=ł (Mv.trans HG.out hg2 (λ_ e=>e.elim));have hb2:=ai HB.out hg2;obtain⟨m0,m1,m2,m3⟩:=dN hb2;have hlb:=lt_of_block hb2;clear hg2 hb2;generalize eZ n s=pb at *;cases pb with
     |false =>
      have HR:=ł (iC.out rfl);go_wp2_with fail;go_ret;exact⟨aK HR.out.symm,HG2.out⟩
     |true =>
      have HR:=ł (dQ.out rfl);have aM:=ł (HG2.out.alloc (.cells #[.func (.func 57) #[] #[]] 44));have HK:=ł (uW _ n s (.slice a l.length cap) l [57] [aN] (.slice (some ⟨w2.heap.size,0,none⟩) 1 1) (w2.alloc (.cells #[.func (.func 57) #[] #[]] 44)) (HX.out.later aM.out) (az.bO (l:=[57]) (λ_=>rfl) (heap_alloc_new w2 _) rfl (by simp)) rfl (by decide) (λi hi hk hp w' hg=>by
       have hgw:=Mv.trans aM.out hg (λ_ e=>e.elim);have hm:=List.getElem_mem hk;simp only[List.length_cons,List.length_nil]at hi
       skip
       obtain rfl:i=0:=by omega
       exact iB.out _ hm w' hgw))
      simp only[ae.val]at HK;go_wp2_with fail;refine HK.out.mono ?_;rintro e w3 ⟨rfl,hg3⟩;have aH:=ł (Mv.trans aM.out hg3 (λ_ e=>e.elim));clear hg3;go_wp2_with fail;go_ret;exact⟨aK HR.out.symm,aH.out⟩
  have h6:k≠6:=by omega
  have h7:k≠7:=by omega
  clear hG;by_cases hrange:8<=k/\k<=23
  · obtain⟨h8,h23⟩:=hrange;have hr1:(k == 1)=false:=by simp;omega
    have hr2:(k == 2)=false:=by simp;omega
    have hr4:(k == 4)=false:=by simp;omega
    have qZ:(k == 5)=false:=by simp;omega
    have hr3:(k == 3)=false:=by simp;omega
    have hr6:(k == 6)=false:=by simp;omega
    have Jj:(k == 7)=false:=by simp;omega
    have HG:=ł (show Grow w (w.alloc (.cells #[.int .u8 k,.int .i64 n,.string s,.slice a l.length cap] 24))from(Mv.refl _ _).alloc _);have HB:=ł (heap_alloc_new w (.cells #[.int .u8 k,.int .i64 n,.string s,.slice a l.length cap] 24));have dY:=ł (zW k n s a l cap (w.alloc (.cells #[.int .u8 k,.int .i64 n,.string s,.slice a l.length cap] 24)));have iC:=ł (show eZ n s=false->aN (.mk k n s (ae.ts l))=false from λh=>by simp[aN,h,show ¬ k=1 from by omega,show ¬ k=2 from by omega,show ¬ k=4 from by omega,show ¬ k=5 from by omega,show ¬ k=3 from by omega,show ¬ k=6 from by omega,show ¬ k=7 from by omega,h8,h23]);have dQ:=ł (show eZ n s=true->aN (.mk k n s (ae.ts l))=bI [aN,aN] (ae.ts l)from λh=>by simp[aN,h,uX,uY,uZ,uV,ve,show ¬ k=1 from by omega,show ¬ k=2 from by omega,show ¬ k=4 from by omega,show ¬ k=5 from by omega,show ¬ k=3 from by omega,show ¬ k=6 from by omega,show ¬ k=7 from by omega,h8,h23])
    go_enter Tryz.func57,Tryz.ntmps57
    go_wp2_with fail;refine dY.out.mono ?_;rintro e w2 ⟨rfl,hg2⟩;have HG2:=ł (Mv.trans HG.out hg2 (λ_ e=>e.elim));have hb2:=ai HB.out hg2;obtain⟨m0,m1,m2,m3⟩:=dN hb2;have hlb:=lt_of_block hb2;clear hg2 hb2;generalize eZ n s=pb at *;cases pb with
    |false =>
     have HR:=ł (iC.out rfl);go_wp2_with fail;go_ret;exact⟨aK HR.out.symm,HG2.out⟩
    |true =>
     have HR:=ł (dQ.out rfl);have aM:=ł (HG2.out.alloc (.cells #[.func (.func 57) #[] #[],.func (.func 57) #[] #[]] 44));have HK:=ł (uW k n s (.slice a l.length cap) l [57,57] [aN,aN] (.slice (some ⟨w2.heap.size,0,none⟩) 2 2) (w2.alloc (.cells #[.func (.func 57) #[] #[],.func (.func 57) #[] #[]] 44)) (HX.out.later aM.out) (az.bO (l:=[57,57]) (λ_=>rfl) (heap_alloc_new w2 _) rfl (by simp)) rfl (by decide) (λi hi hk hp w' hg=>by
      have hgw:=Mv.trans aM.out hg (λ_ e=>e.elim);have hm:=List.getElem_mem hk;simp only[List.length_cons,List.length_nil]at hi;rcases Nat.lt_or_ge i 1 with h0|h0
      · obtain rfl:i=0:=by omega
        exact iB.out _ hm w' hgw
      skip
      obtain rfl:i=1:=by omega
      exact iB.out _ hm w' hgw))
     simp only[ae.val]at HK;go_wp2_with fail;refine HK.out.mono ?_;rintro e w3 ⟨rfl,hg3⟩;have aH:=ł (Mv.trans aM.out hg3 (λ_ e=>e.elim));clear hg3;go_wp2_with fail;go_ret;exact⟨aK HR.out.symm,aH.out⟩
  · 
    have hr1:(k == 1)=false:=by simp;omega
    have hr2:(k == 2)=false:=by simp;omega
    have hr4:(k == 4)=false:=by simp;omega
    have qZ:(k == 5)=false:=by simp;omega
    have hr3:(k == 3)=false:=by simp;omega
    have hr6:(k == 6)=false:=by simp;omega
    have Jj:(k == 7)=false:=by simp;omega
    have HG:=ł (show Grow w (w.alloc (.cells #[.int .u8 k,.int .i64 n,.string s,.slice a l.length cap] 24))from(Mv.refl _ _).alloc _);have HR:=ł (show aN (.mk k n s (ae.ts l))=false from by simp[aN,show ¬ k=1 from by omega,show ¬ k=2 from by omega,show ¬ k=4 from by omega,show ¬ k=5 from by omega,show ¬ k=3 from by omega,show ¬ k=6 from by omega,show ¬ k=7 from by omega,hrange]);rcases Nat.lt_or_ge k.toNat 8 with hq|hq
    · have hq1:k<8:=by omega
      go_enter Tryz.func57,Tryz.ntmps57
      go_wp2_with fail;go_ret;exact⟨aK HR.out.symm,HG.out⟩
    · have hq1:8<=k:=by omega
      have hq2:23<k:=by omega
      go_enter Tryz.func57,Tryz.ntmps57
      go_wp2_with fail;go_ret;exact⟨aK HR.out.symm,HG.out⟩
theorem yx (x:ae) (w:World) (h:aR w x):Calls Tryz.prog 57 #[x.val] w (jy w (aN x.t)):=Yn _ x (Nat.le_refl _) w h
theorem Di (x:ae) (w:World) (hx:aR w x):Calls Tryz.prog 56 #[x.val] w (jy w (dJ x.t)):=by
 obtain⟨k,n,s,kv,l⟩:=x;obtain⟨a,cap,rfl,hcap,hlen⟩:=hx.form;obtain⟨hk1,hk2⟩:=hx.row.1;have HG:=ł (show Grow w (w.alloc (.cells #[.int .u8 k,.int .i64 n,.string s,.slice a l.length cap] 24))from(Mv.refl _ _).alloc _);have HE:=ł (yx (.mk k n s (.slice a l.length cap) l) (w.alloc (.cells #[.int .u8 k,.int .i64 n,.string s,.slice a l.length cap] 24)) (hx.later HG.out));simp only[ae.val,ae.t]at HE ⊢;clear hx;by_cases hk:k=2\/k=3
 · have HR:=ł (show dJ (.mk k n s (ae.ts l))=aN (.mk k n s (ae.ts l))from by rcases hk with rfl|rfl <;> simp[dJ,Tree.kind]);generalize aN (.mk k n s (ae.ts l))=bv at *;rcases hk with rfl|rfl
   all_goals
    go_enter Tryz.func56,Tryz.ntmps56
    go_wp2_with fail;refine HE.out.mono ?_;rintro e w2 ⟨rfl,hg2⟩;have HG2:=ł (Mv.trans HG.out hg2 (λ_ e=>e.elim));clear hg2;go_wp2_with fail;go_ret;exact⟨aK HR.out.symm,HG2.out⟩
 · have hr2:(k == 2)=false:=(by simp <;> omega);have hr3:(k == 3)=false:=(by simp <;> omega);have HR:=ł (show dJ (.mk k n s (ae.ts l))=false from by simp[dJ,Tree.kind,show ¬ k=2 from by omega,show ¬ k=3 from by omega])
   go_enter Tryz.func56,Tryz.ntmps56
   go_wp2_with fail;go_ret;exact⟨aK HR.out.symm,HG.out⟩
theorem Qn (x:ae) (w:World) (hx:aR w x):Calls Tryz.prog 59 #[x.val] w (jy w (o8 x.t)):=by
 obtain⟨k,n,s,kv,l⟩:=x;obtain⟨a,cap,rfl,hcap,hlen⟩:=hx.form;obtain⟨hk1,hk2⟩:=hx.row.1;have HG:=ł (show Grow w (w.alloc (.cells #[.int .u8 k,.int .i64 n,.string s,.slice a l.length cap] 24))from(Mv.refl _ _).alloc _);have HE:=ł (yx (.mk k n s (.slice a l.length cap) l) (w.alloc (.cells #[.int .u8 k,.int .i64 n,.string s,.slice a l.length cap] 24)) (hx.later HG.out));simp only[ae.val,ae.t]at HE ⊢;clear hx;by_cases hk:k=2
 · have HR:=ł (show o8 (.mk k n s (ae.ts l))=aN (.mk k n s (ae.ts l))from by rcases hk with rfl <;> simp[o8,Tree.kind]);generalize aN (.mk k n s (ae.ts l))=bv at *;rcases hk with rfl
   all_goals
    go_enter Tryz.func59,Tryz.ntmps59
    go_wp2_with fail;refine HE.out.mono ?_;rintro e w2 ⟨rfl,hg2⟩;have HG2:=ł (Mv.trans HG.out hg2 (λ_ e=>e.elim));clear hg2;go_wp2_with fail;go_ret;exact⟨aK HR.out.symm,HG2.out⟩
 · have hr2:(k == 2)=false:=(by simp <;> omega);have HR:=ł (show o8 (.mk k n s (ae.ts l))=false from by simp[o8,Tree.kind,show ¬ k=2 from by omega])
   go_enter Tryz.func59,Tryz.ntmps59
   go_wp2_with fail;go_ret;exact⟨aK HR.out.symm,HG.out⟩
def KZ (m:Nat):Prop:=∀ (x:ae),SizeOf.sizeOf x<=m->∀ w:World,aR w x->Calls Tryz.prog 32 #[x.val] w (jy w (bq x.t))
def KD (m:Nat):Prop:=∀ (x:ae),SizeOf.sizeOf x<=m->∀ w:World,aR w x->Calls Tryz.prog 20 #[x.val] w (jy w (bF x.t))
theorem Xq (m:Nat) (ih:KZ m):KD (m+1):=by
 intro x hm w hx;obtain⟨k,n,s,kv,l⟩:=x;obtain⟨a,cap,rfl,hcap,hlen⟩:=hx.form;obtain⟨hk1,hk2⟩:=hx.row.1;have HIS:=ł (λ(y:ae) (hy:y∈l) (w':World) (hg:Grow w w')=>ih y (by have:=ng (k:=k) (n:=n) (s:=s) (kv := .slice a l.length cap) hy;omega) w' ((hx.row.2.2.2.2 y hy).later hg));have HX:=ł hx;clear ih hm hx;simp only[ae.val,ae.t];by_cases h57:k=57
 · subst h57;have HG:=ł (show Grow w (w.alloc (.cells #[.int .u8 57,.int .i64 n,.string s,.slice a l.length cap] 24))from(Mv.refl _ _).alloc _);have HB:=ł (heap_alloc_new w (.cells #[.int .u8 57,.int .i64 n,.string s,.slice a l.length cap] 24));have dY:=ł (zW 57 n s a l cap (w.alloc (.cells #[.int .u8 57,.int .i64 n,.string s,.slice a l.length cap] 24)));have iC:=ł (show eZ n s=false->bF (.mk 57 n s (ae.ts l))=false from λh=>by simp[bF,h]);have dQ:=ł (show eZ n s=true->bF (.mk 57 n s (ae.ts l))=(ae.ts l).all bq from λh=>by simp[bF,h,BP])
   go_enter Tryz.func20,Tryz.ntmps20
   go_wp2_with fail;refine dY.out.mono ?_;rintro e w2 ⟨rfl,hg2⟩;have HG2:=ł (Mv.trans HG.out hg2 (λ_ e=>e.elim));have hb2:=ai HB.out hg2;obtain⟨m0,m1,m2,m3⟩:=dN hb2;have hlb:=lt_of_block hb2;clear hg2 hb2;generalize eZ n s=pb at *
   cases pb with
   |false =>
    have HR:=ł (iC.out rfl);go_wp2_with fail;go_ret;exact⟨aK HR.out.symm,HG2.out⟩
   |true =>
    have HR:=ł (dQ.out rfl);have HE:=ł (KC (.slice a l.length cap) l 32 bq w2 (HX.out.row.2.2.2.1.later HG2.out) (λx hx=>(HX.out.row.2.2.2.2 x hx).later HG2.out) (.inl rfl) (λx hx w' hg=>HIS.out x hx w' (Mv.trans HG2.out hg (λ_ e=>e.elim))));go_wp2_with fail;refine HE.out.mono ?_;rintro e w3 ⟨rfl,hg3⟩;have aH:=ł (Mv.trans HG2.out hg3 (λ_ e=>e.elim));clear hg3;go_wp2_with fail;go_ret;exact⟨aK HR.out.symm,aH.out⟩
 · have aeP:(k == 57)=false:=by simpa using h57
   have HG:=ł (show Grow w (w.alloc (.cells #[.int .u8 k,.int .i64 n,.string s,.slice a l.length cap] 24))from(Mv.refl _ _).alloc _);have HR:=ł (show bF (.mk k n s (ae.ts l))=false from by simp[bF,h57])
   go_enter Tryz.func20,Tryz.ntmps20
   go_wp2_with fail;go_ret;exact⟨aK HR.out.symm,HG.out⟩
theorem XN (m:Nat) (ih:KD m):KZ (m+1):=by
 intro x hm w hx;obtain⟨k,n,s,kv,l⟩:=x;obtain⟨a,cap,rfl,hcap,hlen⟩:=hx.form;obtain⟨hk1,hk2⟩:=hx.row.1;have hs:=hx.row.2.2.1;have HX:=ł hx;have dZ:=ł (λ(y:ae) (hy:y∈l) (w':World) (hg:Grow w w')=>ih y (by have:=ng (k:=k) (n:=n) (s:=s) (kv := .slice a l.length cap) hy;omega) w' ((hx.row.2.2.2.2 y hy).later hg));clear ih hm hx;simp only[ae.val,ae.t];by_cases hG:k=40\/k=41\/k=42\/k=56
 · have HG:=ł (show Grow w (w.alloc (.cells #[.int .u8 k,.int .i64 n,.string s,.slice a l.length cap] 24))from(Mv.refl _ _).alloc _);have HB:=ł (heap_alloc_new w (.cells #[.int .u8 k,.int .i64 n,.string s,.slice a l.length cap] 24));have dY:=ł (zW k n s a l cap (w.alloc (.cells #[.int .u8 k,.int .i64 n,.string s,.slice a l.length cap] 24)));have iC:=ł (show eZ n s=false->bq (.mk k n s (ae.ts l))=false from λh=>by rcases hG with rfl|rfl|rfl|rfl <;> simp[bq,h]);have dQ:=ł (show eZ n s=true->bq (.mk k n s (ae.ts l))=bI [dJ,aN] (ae.ts l)from λh=>by rcases hG with rfl|rfl|rfl|rfl <;> simp[bq,h,uX,uY,uZ,uV,ve]);rcases hG with rfl|rfl|rfl|rfl
   all_goals
    go_enter Tryz.func32,Tryz.ntmps32
    go_wp2_with fail;refine dY.out.mono ?_;rintro e w2 ⟨rfl,hg2⟩;have HG2:=ł (Mv.trans HG.out hg2 (λ_ e=>e.elim));have hb2:=ai HB.out hg2;obtain⟨m0,m1,m2,m3⟩:=dN hb2;have hlb:=lt_of_block hb2;clear hg2 hb2;generalize eZ n s=pb at *;cases pb with
    |false =>
     have HR:=ł (iC.out rfl);go_wp2_with fail;go_ret;exact⟨aK HR.out.symm,HG2.out⟩
    |true =>
     have HR:=ł (dQ.out rfl);have aM:=ł (HG2.out.alloc (.cells #[.func (.func 56) #[] #[],.func (.func 57) #[] #[]] 44));have HK:=ł (uW _ n s (.slice a l.length cap) l [56,57] [dJ,aN] (.slice (some ⟨w2.heap.size,0,none⟩) 2 2) (w2.alloc (.cells #[.func (.func 56) #[] #[],.func (.func 57) #[] #[]] 44)) (HX.out.later aM.out) (az.bO (l:=[56,57]) (λ_=>rfl) (heap_alloc_new w2 _) rfl (by simp)) rfl (by decide) (λi hi hk hp w' hg=>by
      have hgw:=Mv.trans aM.out hg (λ_ e=>e.elim);have hm:=List.getElem_mem hk;simp only[List.length_cons,List.length_nil]at hi;rcases Nat.lt_or_ge i 1 with h0|h0
      · obtain rfl:i=0:=by omega
        exact Di _ w' ((HX.out.row.2.2.2.2 _ hm).later hgw)
      skip
      obtain rfl:i=1:=by omega
      exact yx _ w' ((HX.out.row.2.2.2.2 _ hm).later hgw)))
     simp only[ae.val]at HK;go_wp2_with fail;refine HK.out.mono ?_;rintro e w3 ⟨rfl,hg3⟩;have aH:=ł (Mv.trans aM.out hg3 (λ_ e=>e.elim));clear hg3;go_wp2_with fail;go_ret;exact⟨aK HR.out.symm,aH.out⟩
 have uz:k≠40:=by omega
 have uA:k≠41:=by omega
 have uB:k≠42:=by omega
 have pM:k≠56:=by omega
 clear hG;by_cases h43:k=43
 · subst h43;have HG:=ł (show Grow w (w.alloc (.cells #[.int .u8 43,.int .i64 n,.string s,.slice a l.length cap] 24))from(Mv.refl _ _).alloc _);have HB:=ł (heap_alloc_new w (.cells #[.int .u8 43,.int .i64 n,.string s,.slice a l.length cap] 24));have dY:=ł (zW 43 n s a l cap (w.alloc (.cells #[.int .u8 43,.int .i64 n,.string s,.slice a l.length cap] 24)));have iC:=ł (show eZ n s=false->bq (.mk 43 n s (ae.ts l))=false from λh=>by simp[bq,h]);have dQ:=ł (show eZ n s=true->bq (.mk 43 n s (ae.ts l))=bI [dJ,dJ] (ae.ts l)from λh=>by simp[bq,h,uX,uY,uZ,uV,ve])
   go_enter Tryz.func32,Tryz.ntmps32
   go_wp2_with fail;refine dY.out.mono ?_;rintro e w2 ⟨rfl,hg2⟩;have HG2:=ł (Mv.trans HG.out hg2 (λ_ e=>e.elim));have hb2:=ai HB.out hg2;obtain⟨m0,m1,m2,m3⟩:=dN hb2;have hlb:=lt_of_block hb2;clear hg2 hb2;generalize eZ n s=pb at *;cases pb with
   |false =>
    have HR:=ł (iC.out rfl);go_wp2_with fail;go_ret;exact⟨aK HR.out.symm,HG2.out⟩
   |true =>
    have HR:=ł (dQ.out rfl);have aM:=ł (HG2.out.alloc (.cells #[.func (.func 56) #[] #[],.func (.func 56) #[] #[]] 44));have HK:=ł (uW 43 n s (.slice a l.length cap) l [56,56] [dJ,dJ] (.slice (some ⟨w2.heap.size,0,none⟩) 2 2) (w2.alloc (.cells #[.func (.func 56) #[] #[],.func (.func 56) #[] #[]] 44)) (HX.out.later aM.out) (az.bO (l:=[56,56]) (λ_=>rfl) (heap_alloc_new w2 _) rfl (by simp)) rfl (by decide) (λi hi hk hp w' hg=>by
     have hgw:=Mv.trans aM.out hg (λ_ e=>e.elim);have hm:=List.getElem_mem hk;simp only[List.length_cons,List.length_nil]at hi;rcases Nat.lt_or_ge i 1 with h0|h0
     · obtain rfl:i=0:=by omega
       exact Di _ w' ((HX.out.row.2.2.2.2 _ hm).later hgw)
     skip
     obtain rfl:i=1:=by omega
     exact Di _ w' ((HX.out.row.2.2.2.2 _ hm).later hgw)))
    simp only[ae.val]at HK;go_wp2_with fail;refine HK.out.mono ?_;rintro e w3 ⟨rfl,hg3⟩;have aH:=ł (Mv.trans aM.out hg3 (λ_ e=>e.elim));clear hg3;go_wp2_with fail;go_ret;exact⟨aK HR.out.symm,aH.out⟩
 by_cases hG:k=44\/k=45
 · have HG:=ł (show Grow w (w.alloc (.cells #[.int .u8 k,.int .i64 n,.string s,.slice a l.length cap] 24))from(Mv.refl _ _).alloc _);have HB:=ł (heap_alloc_new w (.cells #[.int .u8 k,.int .i64 n,.string s,.slice a l.length cap] 24));have dY:=ł (zX k n s a l cap (w.alloc (.cells #[.int .u8 k,.int .i64 n,.string s,.slice a l.length cap] 24)) hs);have iC:=ł (show fO n s=false->bq (.mk k n s (ae.ts l))=false from λh=>by rcases hG with rfl|rfl <;> simp[bq,h]);have dQ:=ł (show fO n s=true->bq (.mk k n s (ae.ts l))=bI [dJ] (ae.ts l)from λh=>by rcases hG with rfl|rfl <;> simp[bq,h,uX,uY,uZ,uV,ve]);rcases hG with rfl|rfl
   all_goals
    go_enter Tryz.func32,Tryz.ntmps32
    go_wp2_with fail;refine dY.out.mono ?_;rintro e w2 ⟨rfl,hg2⟩;have HG2:=ł (Mv.trans HG.out hg2 (λ_ e=>e.elim));have hb2:=ai HB.out hg2;obtain⟨m0,m1,m2,m3⟩:=dN hb2;have hlb:=lt_of_block hb2;clear hg2 hb2;generalize fO n s=pb at *;cases pb with
    |false =>
     have HR:=ł (iC.out rfl);go_wp2_with fail;go_ret;exact⟨aK HR.out.symm,HG2.out⟩
    |true =>
     have HR:=ł (dQ.out rfl);have aM:=ł (HG2.out.alloc (.cells #[.func (.func 56) #[] #[]] 44));have HK:=ł (uW _ n s (.slice a l.length cap) l [56] [dJ] (.slice (some ⟨w2.heap.size,0,none⟩) 1 1) (w2.alloc (.cells #[.func (.func 56) #[] #[]] 44)) (HX.out.later aM.out) (az.bO (l:=[56]) (λ_=>rfl) (heap_alloc_new w2 _) rfl (by simp)) rfl (by decide) (λi hi hk hp w' hg=>by
      have hgw:=Mv.trans aM.out hg (λ_ e=>e.elim);have hm:=List.getElem_mem hk;simp only[List.length_cons,List.length_nil]at hi
      skip
      obtain rfl:i=0:=by omega
      exact Di _ w' ((HX.out.row.2.2.2.2 _ hm).later hgw)))
     simp only[ae.val]at HK;go_wp2_with fail;refine HK.out.mono ?_;rintro e w3 ⟨rfl,hg3⟩;have aH:=ł (Mv.trans aM.out hg3 (λ_ e=>e.elim));clear hg3;go_wp2_with fail;go_ret;exact⟨aK HR.out.symm,aH.out⟩
 have oq:k≠44:=by omega
 have h45:k≠45:=by omega
 clear hG;by_cases hG:k=46\/k=47\/k=48\/k=49
 · have HG:=ł (show Grow w (w.alloc (.cells #[.int .u8 k,.int .i64 n,.string s,.slice a l.length cap] 24))from(Mv.refl _ _).alloc _);have HB:=ł (heap_alloc_new w (.cells #[.int .u8 k,.int .i64 n,.string s,.slice a l.length cap] 24));have dY:=ł (zW k n s a l cap (w.alloc (.cells #[.int .u8 k,.int .i64 n,.string s,.slice a l.length cap] 24)));have iC:=ł (show eZ n s=false->bq (.mk k n s (ae.ts l))=false from λh=>by rcases hG with rfl|rfl|rfl|rfl <;> simp[bq,h]);have dQ:=ł (show eZ n s=true->bq (.mk k n s (ae.ts l))=bI [dJ] (ae.ts l)from λh=>by rcases hG with rfl|rfl|rfl|rfl <;> simp[bq,h,uX,uY,uZ,uV,ve]);rcases hG with rfl|rfl|rfl|rfl
   all_goals
    go_enter Tryz.func32,Tryz.ntmps32
    go_wp2_with fail;refine dY.out.mono ?_;rintro e w2 ⟨rfl,hg2⟩;have HG2:=ł (Mv.trans HG.out hg2 (λ_ e=>e.elim));have hb2:=ai HB.out hg2;obtain⟨m0,m1,m2,m3⟩:=dN hb2;have hlb:=lt_of_block hb2;clear hg2 hb2;generalize eZ n s=pb at *;cases pb with
    |false =>
     have HR:=ł (iC.out rfl);go_wp2_with fail;go_ret;exact⟨aK HR.out.symm,HG2.out⟩
    |true =>
     have HR:=ł (dQ.out rfl);have aM:=ł (HG2.out.alloc (.cells #[.func (.func 56) #[] #[]] 44));have HK:=ł (uW _ n s (.slice a l.length cap) l [56] [dJ] (.slice (some ⟨w2.heap.size,0,none⟩) 1 1) (w2.alloc (.cells #[.func (.func 56) #[] #[]] 44)) (HX.out.later aM.out) (az.bO (l:=[56]) (λ_=>rfl) (heap_alloc_new w2 _) rfl (by simp)) rfl (by decide) (λi hi hk hp w' hg=>by
      have hgw:=Mv.trans aM.out hg (λ_ e=>e.elim);have hm:=List.getElem_mem hk;simp only[List.length_cons,List.length_nil]at hi
      skip
      obtain rfl:i=0:=by omega
      exact Di _ w' ((HX.out.row.2.2.2.2 _ hm).later hgw)))
     simp only[ae.val]at HK;go_wp2_with fail;refine HK.out.mono ?_;rintro e w3 ⟨rfl,hg3⟩;have aH:=ł (Mv.trans aM.out hg3 (λ_ e=>e.elim));clear hg3;go_wp2_with fail;go_ret;exact⟨aK HR.out.symm,aH.out⟩
 have h46:k≠46:=by omega
 have h47:k≠47:=by omega
 have h48:k≠48:=by omega
 have vU:k≠49:=by omega
 clear hG;by_cases h50:k=50
 · subst h50;have HG:=ł (show Grow w (w.alloc (.cells #[.int .u8 50,.int .i64 n,.string s,.slice a l.length cap] 24))from(Mv.refl _ _).alloc _);have HB:=ł (heap_alloc_new w (.cells #[.int .u8 50,.int .i64 n,.string s,.slice a l.length cap] 24));have dY:=ł (zX 50 n s a l cap (w.alloc (.cells #[.int .u8 50,.int .i64 n,.string s,.slice a l.length cap] 24)) hs);have iC:=ł (show fO n s=false->bq (.mk 50 n s (ae.ts l))=false from λh=>by simp[bq,h]);have dQ:=ł (show fO n s=true->bq (.mk 50 n s (ae.ts l))=(decide (l.length<=8) && (ae.ts l).all o8)from λh=>by simp[bq,h,ae.cz])
   go_enter Tryz.func32,Tryz.ntmps32
   go_wp2_with fail;refine dY.out.mono ?_;rintro e w2 ⟨rfl,hg2⟩;have HG2:=ł (Mv.trans HG.out hg2 (λ_ e=>e.elim));have hb2:=ai HB.out hg2;obtain⟨m0,m1,m2,m3⟩:=dN hb2;have hlb:=lt_of_block hb2;clear hg2 hb2;generalize fO n s=pb at *;cases pb with
   |false =>
    have HR:=ł (iC.out rfl);go_wp2_with fail;go_ret;exact⟨aK HR.out.symm,HG2.out⟩
   |true =>
    by_cases h8:l.length<=8
    · have HR:=ł (show bq (.mk 50 n s (ae.ts l))=(ae.ts l).all o8 from by rw[dQ.out rfl];simp[h8]);have HE:=ł (KC (.slice a l.length cap) l 59 o8 w2 (HX.out.row.2.2.2.1.later HG2.out) (λx hx=>(HX.out.row.2.2.2.2 x hx).later HG2.out) (.inr rfl) (λx hx w' hg=>Qn x w' ((HX.out.row.2.2.2.2 x hx).later (Mv.trans HG2.out hg (λ_ e=>e.elim)))));go_wp2_with fail;refine HE.out.mono ?_;rintro e w3 ⟨rfl,hg3⟩;have aH:=ł (Mv.trans HG2.out hg3 (λ_ e=>e.elim));clear hg3;go_wp2_with fail;go_ret;exact⟨aK HR.out.symm,aH.out⟩
    · have HR:=ł (show bq (.mk 50 n s (ae.ts l))=false from by rw[dQ.out rfl];simp[h8]);go_wp2_with fail;go_ret;exact⟨aK HR.out.symm,HG2.out⟩
 by_cases lh:k=51
 · subst lh;have HG:=ł (show Grow w (w.alloc (.cells #[.int .u8 51,.int .i64 n,.string s,.slice a l.length cap] 24))from(Mv.refl _ _).alloc _);have HB:=ł (heap_alloc_new w (.cells #[.int .u8 51,.int .i64 n,.string s,.slice a l.length cap] 24));have dY:=ł (zX 51 n s a l cap (w.alloc (.cells #[.int .u8 51,.int .i64 n,.string s,.slice a l.length cap] 24)) hs);have iC:=ł (show fO n s=false->bq (.mk 51 n s (ae.ts l))=false from λh=>by simp[bq,h]);have dQ:=ł (show fO n s=true->bq (.mk 51 n s (ae.ts l))=(decide (l.length<=8) && (ae.ts l).all o8)from λh=>by simp[bq,h,ae.cz])
   go_enter Tryz.func32,Tryz.ntmps32
   go_wp2_with fail;refine dY.out.mono ?_;rintro e w2 ⟨rfl,hg2⟩;have HG2:=ł (Mv.trans HG.out hg2 (λ_ e=>e.elim));have hb2:=ai HB.out hg2;obtain⟨m0,m1,m2,m3⟩:=dN hb2;have hlb:=lt_of_block hb2;clear hg2 hb2;generalize fO n s=pb at *;cases pb with
   |false =>
    have HR:=ł (iC.out rfl);go_wp2_with fail;go_ret;exact⟨aK HR.out.symm,HG2.out⟩
   |true =>
    by_cases h8:l.length<=8
    · have HR:=ł (show bq (.mk 51 n s (ae.ts l))=(ae.ts l).all o8 from by rw[dQ.out rfl];simp[h8]);have HE:=ł (KC (.slice a l.length cap) l 59 o8 w2 (HX.out.row.2.2.2.1.later HG2.out) (λx hx=>(HX.out.row.2.2.2.2 x hx).later HG2.out) (.inr rfl) (λx hx w' hg=>Qn x w' ((HX.out.row.2.2.2.2 x hx).later (Mv.trans HG2.out hg (λ_ e=>e.elim)))));go_wp2_with fail;refine HE.out.mono ?_;rintro e w3 ⟨rfl,hg3⟩;have aH:=ł (Mv.trans HG2.out hg3 (λ_ e=>e.elim));clear hg3;go_wp2_with fail;go_ret;exact⟨aK HR.out.symm,aH.out⟩
    · have HR:=ł (show bq (.mk 51 n s (ae.ts l))=false from by rw[dQ.out rfl];simp[h8]);go_wp2_with fail;go_ret;exact⟨aK HR.out.symm,HG2.out⟩
 by_cases hG:k=52\/k=53
 · have HG:=ł (show Grow w (w.alloc (.cells #[.int .u8 k,.int .i64 n,.string s,.slice a l.length cap] 24))from(Mv.refl _ _).alloc _);have HB:=ł (heap_alloc_new w (.cells #[.int .u8 k,.int .i64 n,.string s,.slice a l.length cap] 24));have dY:=ł (zW k n s a l cap (w.alloc (.cells #[.int .u8 k,.int .i64 n,.string s,.slice a l.length cap] 24)));have iC:=ł (show eZ n s=false->bq (.mk k n s (ae.ts l))=false from λh=>by rcases hG with rfl|rfl <;> simp[bq,h]);have dQ:=ł (show eZ n s=true->bq (.mk k n s (ae.ts l))=bI [aN,bF,bF,aN] (ae.ts l)from λh=>by rcases hG with rfl|rfl <;> simp[bq,h,uX,uY,uZ,uV,ve]);rcases hG with rfl|rfl
   all_goals
    go_enter Tryz.func32,Tryz.ntmps32
    go_wp2_with fail;refine dY.out.mono ?_;rintro e w2 ⟨rfl,hg2⟩;have HG2:=ł (Mv.trans HG.out hg2 (λ_ e=>e.elim));have hb2:=ai HB.out hg2;obtain⟨m0,m1,m2,m3⟩:=dN hb2;have hlb:=lt_of_block hb2;clear hg2 hb2;generalize eZ n s=pb at *;cases pb with
    |false =>
     have HR:=ł (iC.out rfl);go_wp2_with fail;go_ret;exact⟨aK HR.out.symm,HG2.out⟩
    |true =>
     have HR:=ł (dQ.out rfl);have aM:=ł (HG2.out.alloc (.cells #[.func (.func 57) #[] #[],.func (.func 20) #[] #[],.func (.func 20) #[] #[],.func (.func 57) #[] #[]] 44));have HK:=ł (uW _ n s (.slice a l.length cap) l [57,20,20,57] [aN,bF,bF,aN] (.slice (some ⟨w2.heap.size,0,none⟩) 4 4) (w2.alloc (.cells #[.func (.func 57) #[] #[],.func (.func 20) #[] #[],.func (.func 20) #[] #[],.func (.func 57) #[] #[]] 44)) (HX.out.later aM.out) (az.bO (l:=[57,20,20,57]) (λ_=>rfl) (heap_alloc_new w2 _) rfl (by simp)) rfl (by decide) (λi hi hk hp w' hg=>by
      have hgw:=Mv.trans aM.out hg (λ_ e=>e.elim);have hm:=List.getElem_mem hk;simp only[List.length_cons,List.length_nil]at hi;rcases Nat.lt_or_ge i 1 with h0|h0
      · obtain rfl:i=0:=by omega
        exact yx _ w' ((HX.out.row.2.2.2.2 _ hm).later hgw)
      rcases Nat.lt_or_ge i 2 with h1|h1
      · obtain rfl:i=1:=by omega
        exact dZ.out _ hm w' hgw
      rcases Nat.lt_or_ge i 3 with h2|h2
      · obtain rfl:i=2:=by omega
        exact dZ.out _ hm w' hgw
      skip
      obtain rfl:i=3:=by omega
      exact yx _ w' ((HX.out.row.2.2.2.2 _ hm).later hgw)))
     simp only[ae.val]at HK;go_wp2_with fail;refine HK.out.mono ?_;rintro e w3 ⟨rfl,hg3⟩;have aH:=ł (Mv.trans aM.out hg3 (λ_ e=>e.elim));clear hg3;go_wp2_with fail;go_ret;exact⟨aK HR.out.symm,aH.out⟩
 have vV:k≠52:=by omega
 have vW:k≠53:=by omega
 clear hG;by_cases ou:k=54
 · subst ou;have HG:=ł (show Grow w (w.alloc (.cells #[.int .u8 54,.int .i64 n,.string s,.slice a l.length cap] 24))from(Mv.refl _ _).alloc _);have HB:=ł (heap_alloc_new w (.cells #[.int .u8 54,.int .i64 n,.string s,.slice a l.length cap] 24));have dY:=ł (zX 54 n s a l cap (w.alloc (.cells #[.int .u8 54,.int .i64 n,.string s,.slice a l.length cap] 24)) hs);have iC:=ł (show fO n s=false->bq (.mk 54 n s (ae.ts l))=false from λh=>by simp[bq,h]);have dQ:=ł (show fO n s=true->bq (.mk 54 n s (ae.ts l))=bI [aN,bF,aN] (ae.ts l)from λh=>by simp[bq,h,uX,uY,uZ,uV,ve])
   go_enter Tryz.func32,Tryz.ntmps32
   go_wp2_with fail;refine dY.out.mono ?_;rintro e w2 ⟨rfl,hg2⟩;have HG2:=ł (Mv.trans HG.out hg2 (λ_ e=>e.elim));have hb2:=ai HB.out hg2;obtain⟨m0,m1,m2,m3⟩:=dN hb2;have hlb:=lt_of_block hb2;clear hg2 hb2;generalize fO n s=pb at *;cases pb with
   |false =>
    have HR:=ł (iC.out rfl);go_wp2_with fail;go_ret;exact⟨aK HR.out.symm,HG2.out⟩
   |true =>
    have HR:=ł (dQ.out rfl);have aM:=ł (HG2.out.alloc (.cells #[.func (.func 57) #[] #[],.func (.func 20) #[] #[],.func (.func 57) #[] #[]] 44));have HK:=ł (uW 54 n s (.slice a l.length cap) l [57,20,57] [aN,bF,aN] (.slice (some ⟨w2.heap.size,0,none⟩) 3 3) (w2.alloc (.cells #[.func (.func 57) #[] #[],.func (.func 20) #[] #[],.func (.func 57) #[] #[]] 44)) (HX.out.later aM.out) (az.bO (l:=[57,20,57]) (λ_=>rfl) (heap_alloc_new w2 _) rfl (by simp)) rfl (by decide) (λi hi hk hp w' hg=>by
     have hgw:=Mv.trans aM.out hg (λ_ e=>e.elim);have hm:=List.getElem_mem hk;simp only[List.length_cons,List.length_nil]at hi;rcases Nat.lt_or_ge i 1 with h0|h0
     · obtain rfl:i=0:=by omega
       exact yx _ w' ((HX.out.row.2.2.2.2 _ hm).later hgw)
     rcases Nat.lt_or_ge i 2 with h1|h1
     · obtain rfl:i=1:=by omega
       exact dZ.out _ hm w' hgw
     skip
     obtain rfl:i=2:=by omega
     exact yx _ w' ((HX.out.row.2.2.2.2 _ hm).later hgw)))
    simp only[ae.val]at HK;go_wp2_with fail;refine HK.out.mono ?_;rintro e w3 ⟨rfl,hg3⟩;have aH:=ł (Mv.trans aM.out hg3 (λ_ e=>e.elim));clear hg3;go_wp2_with fail;go_ret;exact⟨aK HR.out.symm,aH.out⟩
 by_cases mr:k=55
 · subst mr;have HG:=ł (show Grow w (w.alloc (.cells #[.int .u8 55,.int .i64 n,.string s,.slice a l.length cap] 24))from(Mv.refl _ _).alloc _);have HB:=ł (heap_alloc_new w (.cells #[.int .u8 55,.int .i64 n,.string s,.slice a l.length cap] 24));have dY:=ł (zX 55 n s a l cap (w.alloc (.cells #[.int .u8 55,.int .i64 n,.string s,.slice a l.length cap] 24)) hs);have iC:=ł (show fO n s=false->bq (.mk 55 n s (ae.ts l))=false from λh=>by simp[bq,h]);have dQ:=ł (show fO n s=true->bq (.mk 55 n s (ae.ts l))=bI [bF] (ae.ts l)from λh=>by simp[bq,h,uX,uY,uZ,uV,ve])
   go_enter Tryz.func32,Tryz.ntmps32
   go_wp2_with fail;refine dY.out.mono ?_;rintro e w2 ⟨rfl,hg2⟩;have HG2:=ł (Mv.trans HG.out hg2 (λ_ e=>e.elim));have hb2:=ai HB.out hg2;obtain⟨m0,m1,m2,m3⟩:=dN hb2;have hlb:=lt_of_block hb2;clear hg2 hb2;generalize fO n s=pb at *;cases pb with
   |false =>
    have HR:=ł (iC.out rfl);go_wp2_with fail;go_ret;exact⟨aK HR.out.symm,HG2.out⟩
   |true =>
    have HR:=ł (dQ.out rfl);have aM:=ł (HG2.out.alloc (.cells #[.func (.func 20) #[] #[]] 44));have HK:=ł (uW 55 n s (.slice a l.length cap) l [20] [bF] (.slice (some ⟨w2.heap.size,0,none⟩) 1 1) (w2.alloc (.cells #[.func (.func 20) #[] #[]] 44)) (HX.out.later aM.out) (az.bO (l:=[20]) (λ_=>rfl) (heap_alloc_new w2 _) rfl (by simp)) rfl (by decide) (λi hi hk hp w' hg=>by
     have hgw:=Mv.trans aM.out hg (λ_ e=>e.elim);have hm:=List.getElem_mem hk;simp only[List.length_cons,List.length_nil]at hi
     skip
     obtain rfl:i=0:=by omega
     exact dZ.out _ hm w' hgw))
    simp only[ae.val]at HK;go_wp2_with fail;refine HK.out.mono ?_;rintro e w3 ⟨rfl,hg3⟩;have aH:=ł (Mv.trans aM.out hg3 (λ_ e=>e.elim));clear hg3;go_wp2_with fail;go_ret;exact⟨aK HR.out.symm,aH.out⟩
 have aeQ:(k == 40)=false:=by simp;omega
 have aeR:(k == 41)=false:=by simp;omega
 have aeS:(k == 42)=false:=by simp;omega
 have aeT:(k == 43)=false:=by simp;omega
 have abm:(k == 44)=false:=by simp;omega
 have abn:(k == 45)=false:=by simp;omega
 have aeU:(k == 46)=false:=by simp;omega
 have aeV:(k == 47)=false:=by simp;omega
 have aeW:(k == 48)=false:=by simp;omega
 have aeX:(k == 49)=false:=by simp;omega
 have abo:(k == 50)=false:=by simp;omega
 have abp:(k == 51)=false:=by simp;omega
 have aeY:(k == 52)=false:=by simp;omega
 have aeZ:(k == 53)=false:=by simp;omega
 have abq:(k == 54)=false:=by simp;omega
 have abr:(k == 55)=false:=by simp;omega
 have ae0:(k == 56)=false:=by simp;omega
 have HG:=ł (show Grow w (w.alloc (.cells #[.int .u8 k,.int .i64 n,.string s,.slice a l.length cap] 24))from(Mv.refl _ _).alloc _);have HR:=ł (show bq (.mk k n s (ae.ts l))=false from by simp[bq,uz,uA,uB,h43,oq,h45,h46,h47,h48,vU,h50,lh,vV,vW,ou,mr,pM]);clear uz uA uB h43 oq h45 h46 h47 h48 vU h50 lh vV vW ou mr pM
 go_enter Tryz.func32,Tryz.ntmps32
 go_wp2_with fail;go_ret;exact⟨aK HR.out.symm,HG.out⟩
theorem Gn:∀ m:Nat,KZ m/\KD m
 |0=>⟨λx hm=>by cases x;simp at hm,λx hm=>by cases x;simp at hm⟩
 |m+1=>⟨XN m (Gn m).2,Xq m (Gn m).1⟩
theorem Yo (x:ae) (w:World) (h:aR w x):Calls Tryz.prog 32 #[x.val] w (jy w (bq x.t)):=(Gn _).1 x (Nat.le_refl _) w h
theorem Kc (x:ae) (w:World) (h:aR w x):Calls Tryz.prog 20 #[x.val] w (jy w (bF x.t)):=(Gn _).2 x (Nat.le_refl _) w h
end Go.Proofs.YtnobahchcongnaaGreatDoor
