import Derived.Test.YtnobahchcongnaaGreatF06
set_option linter.unusedSimpArgs false
set_option linter.unusedVariables false
set_option maxRecDepth 100000
set_option maxHeartbeats 25600000
namespace Go.Proofs.YtnobahchcongnaaGreat
open Go.RowKit Go.Instr
theorem uA (l:List Tree):bV [aM] l=(l.length == 1 && mf l):=by
 match l with
 | []=>rfl
 | [t]=>simp[bV,mf]
 |_ :: _ :: _=>simp[bV]
theorem uB (l:List Tree):bV [aM,aM] l=(l.length == 2 && mf l):=by
 match l with
 | []=>rfl
 | [t]=>simp[bV]
 | [t,u]=>simp[bV,mf]
 |_ :: _ :: _ :: _=>simp[bV]
theorem uC (l:List Tree):bV [aM,bW,bW,aM] l=(bV [aM,λ_=>true,λ_=>true,aM] l && ((qA l)[1]?.getD false && (qA l)[2]?.getD false)):=by
 match l with
 | []=>rfl
 | [_]=>simp[bV]
 | [_,_]=>simp[bV]
 | [_,_,_]=>simp[bV]
 | [a,b,c,d] =>
  simp only[bV,Fh,List.map_cons,List.map_nil,List.getElem?_cons_succ,List.getElem?_cons_zero,Option.getD_some,Bool.and_true,Bool.true_and];cases aM a <;> cases bW b <;> cases bW c <;> cases aM d <;> rfl
 |_ :: _ :: _ :: _ :: _ :: _=>simp[bV]
theorem uu (l:List Tree):bV [aM,bW,aM] l=(bV [aM,λ_=>true,aM] l && (qA l)[1]?.getD false):=by
 match l with
 | []=>rfl
 | [_]=>simp[bV]
 | [_,_]=>simp[bV]
 | [a,b,c] =>
  simp only[bV,Fh,List.map_cons,List.map_nil,List.getElem?_cons_succ,List.getElem?_cons_zero,Option.getD_some,Bool.and_true,Bool.true_and];cases aM a <;> cases bW b <;> cases aM c <;> rfl
 |_ :: _ :: _ :: _ :: _=>simp[bV]
theorem uD (l:List Tree):bV [bW] l=(l.length == 1 && (qA l)[0]?.getD false):=by
 match l with
 | []=>rfl
 | [t]=>simp[bV,Fh]
 |_ :: _ :: _=>simp[bV]
theorem WR:∀ (m:Nat) (x:ae),SizeOf.sizeOf x<=m->∀ w:World,aS w x->Calls Tryz.prog 60 #[x.val] w (iK w (aM x.t)):=by
 intro m
 induction m with
 |zero=>intro x hm;cases x;simp at hm
 |succ m ih =>
  intro x hm w hx;obtain⟨k,n,s,kv,l⟩:=x;obtain⟨a,cap,rfl,hcap,hlen⟩:=hx.form;obtain⟨hk1,hk2⟩:=hx.row.1;have hs:=hx.row.2.2.1;have HX:=ł hx;have fT:=ł (λ(y:ae) (hy:y∈l) (w':World) (hg:Grow w w')=>ih y (by have:=nA (k:=k) (n:=n) (s:=s) (kv := .slice a l.length cap) hy;omega) w' ((hx.row.2.2.2.2 y hy).later hg));clear ih hm hx;simp only[ae.val,ae.t];by_cases h1:k=1
  · subst h1;have HG:=ł (show Grow w (w.alloc (.cells #[.int .u8 1,.int .i64 n,.string s,.slice a l.length cap] 26))from(Mv.refl _ _).alloc _);by_cases hn0:0<=n
    · by_cases hs0:s.size=0
      · have hemp:=NC hs0;cases l with
        |nil =>
         have HR:=ł (show aM (.mk 1 n s (ae.ts []))=true from by simp[aM,hn0,hs0,ae.ts]);simp only[List.length_nil]at HG ⊢;clear hs0
         go_enter Tryz.func60,Tryz.ntmps60
         go_wp2_with fail;go_ret;exact⟨aL HR.out.symm,HG.out⟩
        |cons x r =>
         have HR:=ł (show aM (.mk 1 n s (ae.ts (x :: r)))=false from by simp[aM,ae.ts]);have hl1:((r.length+1:Nat) == 0)=false:=by simp
         simp only[List.length_cons]at HG ⊢;clear hs0
         go_enter Tryz.func60,Tryz.ntmps60
         go_wp2_with fail;go_ret;exact⟨aL HR.out.symm,HG.out⟩
      · have hne:=BK (s:=s) (by omega);have HR:=ł (show aM (.mk 1 n s (ae.ts l))=false from by simp[aM,hs0]);clear hs0
        go_enter Tryz.func60,Tryz.ntmps60
        go_wp2_with fail;go_ret;exact⟨aL HR.out.symm,HG.out⟩
    · have HR:=ł (show aM (.mk 1 n s (ae.ts l))=false from by simp[aM,hn0])
      go_enter Tryz.func60,Tryz.ntmps60
      go_wp2_with fail;go_ret;exact⟨aL HR.out.symm,HG.out⟩
  by_cases hG:k=2\/k=4\/k=5
  · have HG:=ł (show Grow w (w.alloc (.cells #[.int .u8 k,.int .i64 n,.string s,.slice a l.length cap] 26))from(Mv.refl _ _).alloc _);have HB:=ł (heap_alloc_new w (.cells #[.int .u8 k,.int .i64 n,.string s,.slice a l.length cap] 26));have eZ:=ł (yN k n s a l cap (w.alloc (.cells #[.int .u8 k,.int .i64 n,.string s,.slice a l.length cap] 26)) hs);have fU:=ł (show fF n s=false->aM (.mk k n s (ae.ts l))=false from λh=>by rcases hG with rfl|rfl|rfl <;> simp[aM,h]);have dU:=ł (show fF n s=true->aM (.mk k n s (ae.ts l))=l.isEmpty from λh=>by rcases hG with rfl|rfl|rfl <;> simp[aM,h,ae.ku]);rcases hG with rfl|rfl|rfl
    all_goals
     go_enter Tryz.func60,Tryz.ntmps60
     go_wp2_with fail;refine eZ.out.mono ?_;rintro e w2 ⟨rfl,hg2⟩;have HG2:=ł (Mv.trans HG.out hg2 (λ_ e=>e.elim));have hb2:=ai HB.out hg2;obtain⟨m0,m1,m2,m3⟩:=dF hb2;have hlb:=lt_of_block hb2;clear hg2 hb2;generalize fF n s=pb at *;cases pb with
     |false =>
      have HR:=ł (fU.out rfl);go_wp2_with fail;go_ret;exact⟨aL HR.out.symm,HG2.out⟩
     |true =>
      have HR:=ł (dU.out rfl);cases l with
      |nil =>
       simp only[List.length_nil]at m3 ⊢;go_wp2_with fail;go_ret;exact⟨aL HR.out.symm,HG2.out⟩
      |cons x r =>
       have hl1:((r.length+1:Nat) == 0)=false:=by simp
       simp only[List.length_cons]at m3 ⊢;go_wp2_with fail;go_ret;exact⟨aL HR.out.symm,HG2.out⟩
  have h2:k≠2:=by omega
  have h4:k≠4:=by omega
  have h5:k≠5:=by omega
  clear hG;by_cases h3:k=3
  · subst h3;have HG:=ł (show Grow w (w.alloc (.cells #[.int .u8 3,.int .i64 n,.string s,.slice a l.length cap] 26))from(Mv.refl _ _).alloc _);have HB:=ł (heap_alloc_new w (.cells #[.int .u8 3,.int .i64 n,.string s,.slice a l.length cap] 26));have eZ:=ł (yN 3 n s a l cap (w.alloc (.cells #[.int .u8 3,.int .i64 n,.string s,.slice a l.length cap] 26)) hs);have fU:=ł (show fF n s=false->aM (.mk 3 n s (ae.ts l))=false from λh=>by simp[aM,h]);have dU:=ł (show fF n s=true->aM (.mk 3 n s (ae.ts l))=bV [aM] (ae.ts l)from λh=>by simp[aM,h,uA,uB,uC,uu,uD])
    go_enter Tryz.func60,Tryz.ntmps60
    go_wp2_with fail;refine eZ.out.mono ?_;rintro e w2 ⟨rfl,hg2⟩;have HG2:=ł (Mv.trans HG.out hg2 (λ_ e=>e.elim));have hb2:=ai HB.out hg2;obtain⟨m0,m1,m2,m3⟩:=dF hb2;have hlb:=lt_of_block hb2;clear hg2 hb2;generalize fF n s=pb at *;cases pb with
    |false =>
     have HR:=ł (fU.out rfl);go_wp2_with fail;go_ret;exact⟨aL HR.out.symm,HG2.out⟩
    |true =>
     have HR:=ł (dU.out rfl);have aK:=ł (HG2.out.alloc (.cells #[.func (.func 60) #[] #[]] 64));have HK:=ł (uz 3 n s (.slice a l.length cap) l [60] [aM] (.slice (some ⟨w2.heap.size,0,none⟩) 1 1) (w2.alloc (.cells #[.func (.func 60) #[] #[]] 64)) (HX.out.later aK.out) (ax.bN (l:=[60]) (λ_=>rfl) (heap_alloc_new w2 _) rfl (by simp)) rfl (by decide) (λi hi hk hp w' hg=>by
      have hgw:=Mv.trans aK.out hg (λ_ e=>e.elim);have hm:=List.getElem_mem hk;simp only[List.length_cons,List.length_nil]at hi
      skip
      obtain rfl:i=0:=by omega
      exact fT.out _ hm w' hgw))
     simp only[ae.val]at HK;go_wp2_with fail;refine HK.out.mono ?_;rintro e w3 ⟨rfl,hg3⟩;have aG:=ł (Mv.trans aK.out hg3 (λ_ e=>e.elim));clear hg3;go_wp2_with fail;go_ret;exact⟨aL HR.out.symm,aG.out⟩
  by_cases hG:k=6\/k=7
  · have HG:=ł (show Grow w (w.alloc (.cells #[.int .u8 k,.int .i64 n,.string s,.slice a l.length cap] 26))from(Mv.refl _ _).alloc _);have HB:=ł (heap_alloc_new w (.cells #[.int .u8 k,.int .i64 n,.string s,.slice a l.length cap] 26));have eZ:=ł (yM k n s a l cap (w.alloc (.cells #[.int .u8 k,.int .i64 n,.string s,.slice a l.length cap] 26)));have fU:=ł (show eD n s=false->aM (.mk k n s (ae.ts l))=false from λh=>by rcases hG with rfl|rfl <;> simp[aM,h]);have dU:=ł (show eD n s=true->aM (.mk k n s (ae.ts l))=bV [aM] (ae.ts l)from λh=>by rcases hG with rfl|rfl <;> simp[aM,h,uA,uB,uC,uu,uD]);rcases hG with rfl|rfl
    all_goals
     go_enter Tryz.func60,Tryz.ntmps60
     go_wp2_with fail;refine eZ.out.mono ?_;rintro e w2 ⟨rfl,hg2⟩;have HG2:=ł (Mv.trans HG.out hg2 (λ_ e=>e.elim));have hb2:=ai HB.out hg2;obtain⟨m0,m1,m2,m3⟩:=dF hb2;have hlb:=lt_of_block hb2;clear hg2 hb2;generalize eD n s=pb at *;cases pb with
     |false =>
      have HR:=ł (fU.out rfl);go_wp2_with fail;go_ret;exact⟨aL HR.out.symm,HG2.out⟩
     |true =>
      have HR:=ł (dU.out rfl);have aK:=ł (HG2.out.alloc (.cells #[.func (.func 60) #[] #[]] 64));have HK:=ł (uz _ n s (.slice a l.length cap) l [60] [aM] (.slice (some ⟨w2.heap.size,0,none⟩) 1 1) (w2.alloc (.cells #[.func (.func 60) #[] #[]] 64)) (HX.out.later aK.out) (ax.bN (l:=[60]) (λ_=>rfl) (heap_alloc_new w2 _) rfl (by simp)) rfl (by decide) (λi hi hk hp w' hg=>by
       have hgw:=Mv.trans aK.out hg (λ_ e=>e.elim);have hm:=List.getElem_mem hk;simp only[List.length_cons,List.length_nil]at hi
       skip
       obtain rfl:i=0:=by omega
       exact fT.out _ hm w' hgw))
      simp only[ae.val]at HK;go_wp2_with fail;refine HK.out.mono ?_;rintro e w3 ⟨rfl,hg3⟩;have aG:=ł (Mv.trans aK.out hg3 (λ_ e=>e.elim));clear hg3;go_wp2_with fail;go_ret;exact⟨aL HR.out.symm,aG.out⟩
  have h6:k≠6:=by omega
  have h7:k≠7:=by omega
  clear hG;by_cases hrange:8<=k/\k<=23
  · obtain⟨h8,h23⟩:=hrange;have hr1:(k == 1)=false:=by simp;omega
    have hr2:(k == 2)=false:=by simp;omega
    have hr4:(k == 4)=false:=by simp;omega
    have zI:(k == 5)=false:=by simp;omega
    have hr3:(k == 3)=false:=by simp;omega
    have hr6:(k == 6)=false:=by simp;omega
    have Gy:(k == 7)=false:=by simp;omega
    have HG:=ł (show Grow w (w.alloc (.cells #[.int .u8 k,.int .i64 n,.string s,.slice a l.length cap] 26))from(Mv.refl _ _).alloc _);have HB:=ł (heap_alloc_new w (.cells #[.int .u8 k,.int .i64 n,.string s,.slice a l.length cap] 26));have eZ:=ł (yM k n s a l cap (w.alloc (.cells #[.int .u8 k,.int .i64 n,.string s,.slice a l.length cap] 26)));have fU:=ł (show eD n s=false->aM (.mk k n s (ae.ts l))=false from λh=>by simp[aM,h,show ¬ k=1 from by omega,show ¬ k=2 from by omega,show ¬ k=4 from by omega,show ¬ k=5 from by omega,show ¬ k=3 from by omega,show ¬ k=6 from by omega,show ¬ k=7 from by omega,h8,h23]);have dU:=ł (show eD n s=true->aM (.mk k n s (ae.ts l))=bV [aM,aM] (ae.ts l)from λh=>by simp[aM,h,uA,uB,uC,uu,uD,show ¬ k=1 from by omega,show ¬ k=2 from by omega,show ¬ k=4 from by omega,show ¬ k=5 from by omega,show ¬ k=3 from by omega,show ¬ k=6 from by omega,show ¬ k=7 from by omega,h8,h23])
    go_enter Tryz.func60,Tryz.ntmps60
    go_wp2_with fail;refine eZ.out.mono ?_;rintro e w2 ⟨rfl,hg2⟩;have HG2:=ł (Mv.trans HG.out hg2 (λ_ e=>e.elim));have hb2:=ai HB.out hg2;obtain⟨m0,m1,m2,m3⟩:=dF hb2;have hlb:=lt_of_block hb2;clear hg2 hb2;generalize eD n s=pb at *;cases pb with
    |false =>
     have HR:=ł (fU.out rfl);go_wp2_with fail;go_ret;exact⟨aL HR.out.symm,HG2.out⟩
    |true =>
     have HR:=ł (dU.out rfl);have aK:=ł (HG2.out.alloc (.cells #[.func (.func 60) #[] #[],.func (.func 60) #[] #[]] 64));have HK:=ł (uz k n s (.slice a l.length cap) l [60,60] [aM,aM] (.slice (some ⟨w2.heap.size,0,none⟩) 2 2) (w2.alloc (.cells #[.func (.func 60) #[] #[],.func (.func 60) #[] #[]] 64)) (HX.out.later aK.out) (ax.bN (l:=[60,60]) (λ_=>rfl) (heap_alloc_new w2 _) rfl (by simp)) rfl (by decide) (λi hi hk hp w' hg=>by
      have hgw:=Mv.trans aK.out hg (λ_ e=>e.elim);have hm:=List.getElem_mem hk;simp only[List.length_cons,List.length_nil]at hi;rcases Nat.lt_or_ge i 1 with h0|h0
      · obtain rfl:i=0:=by omega
        exact fT.out _ hm w' hgw
      skip
      obtain rfl:i=1:=by omega
      exact fT.out _ hm w' hgw))
     simp only[ae.val]at HK;go_wp2_with fail;refine HK.out.mono ?_;rintro e w3 ⟨rfl,hg3⟩;have aG:=ł (Mv.trans aK.out hg3 (λ_ e=>e.elim));clear hg3;go_wp2_with fail;go_ret;exact⟨aL HR.out.symm,aG.out⟩
  · 
    have hr1:(k == 1)=false:=by simp;omega
    have hr2:(k == 2)=false:=by simp;omega
    have hr4:(k == 4)=false:=by simp;omega
    have zI:(k == 5)=false:=by simp;omega
    have hr3:(k == 3)=false:=by simp;omega
    have hr6:(k == 6)=false:=by simp;omega
    have Gy:(k == 7)=false:=by simp;omega
    have HG:=ł (show Grow w (w.alloc (.cells #[.int .u8 k,.int .i64 n,.string s,.slice a l.length cap] 26))from(Mv.refl _ _).alloc _);have HR:=ł (show aM (.mk k n s (ae.ts l))=false from by simp[aM,show ¬ k=1 from by omega,show ¬ k=2 from by omega,show ¬ k=4 from by omega,show ¬ k=5 from by omega,show ¬ k=3 from by omega,show ¬ k=6 from by omega,show ¬ k=7 from by omega,hrange]);rcases Nat.lt_or_ge k.toNat 8 with hq|hq
    · have hq1:k<8:=by omega
      go_enter Tryz.func60,Tryz.ntmps60
      go_wp2_with fail;go_ret;exact⟨aL HR.out.symm,HG.out⟩
    · have hq1:8<=k:=by omega
      have hq2:23<k:=by omega
      go_enter Tryz.func60,Tryz.ntmps60
      go_wp2_with fail;go_ret;exact⟨aL HR.out.symm,HG.out⟩
theorem xH (x:ae) (w:World) (h:aS w x):Calls Tryz.prog 60 #[x.val] w (iK w (aM x.t)):=WR _ x (Nat.le_refl _) w h
theorem BI (x:ae) (w:World) (hx:aS w x):Calls Tryz.prog 76 #[x.val] w (iK w (ik x.t)):=by
 obtain⟨k,n,s,kv,l⟩:=x;obtain⟨a,cap,rfl,hcap,hlen⟩:=hx.form;obtain⟨hk1,hk2⟩:=hx.row.1;have HG:=ł (show Grow w (w.alloc (.cells #[.int .u8 k,.int .i64 n,.string s,.slice a l.length cap] 26))from(Mv.refl _ _).alloc _);have HE:=ł (xH (.mk k n s (.slice a l.length cap) l) (w.alloc (.cells #[.int .u8 k,.int .i64 n,.string s,.slice a l.length cap] 26)) (hx.later HG.out));simp only[ae.val,ae.t]at HE ⊢;clear hx;by_cases hk:k=2\/k=3
 · have HR:=ł (show ik (.mk k n s (ae.ts l))=aM (.mk k n s (ae.ts l))from by rcases hk with rfl|rfl <;> simp[ik,Tree.kind]);generalize aM (.mk k n s (ae.ts l))=bv at *;rcases hk with rfl|rfl
   all_goals
    go_enter Tryz.func76,Tryz.ntmps76
    go_wp2_with fail;refine HE.out.mono ?_;rintro e w2 ⟨rfl,hg2⟩;have HG2:=ł (Mv.trans HG.out hg2 (λ_ e=>e.elim));clear hg2;go_wp2_with fail;go_ret;exact⟨aL HR.out.symm,HG2.out⟩
 · have hr2:(k == 2)=false:=(by simp <;> omega);have hr3:(k == 3)=false:=(by simp <;> omega);have HR:=ł (show ik (.mk k n s (ae.ts l))=false from by simp[ik,Tree.kind,show ¬ k=2 from by omega,show ¬ k=3 from by omega])
   go_enter Tryz.func76,Tryz.ntmps76
   go_wp2_with fail;go_ret;exact⟨aL HR.out.symm,HG.out⟩
theorem OM (x:ae) (w:World) (hx:aS w x):Calls Tryz.prog 78 #[x.val] w (iK w (mh x.t)):=by
 obtain⟨k,n,s,kv,l⟩:=x;obtain⟨a,cap,rfl,hcap,hlen⟩:=hx.form;obtain⟨hk1,hk2⟩:=hx.row.1;have HG:=ł (show Grow w (w.alloc (.cells #[.int .u8 k,.int .i64 n,.string s,.slice a l.length cap] 26))from(Mv.refl _ _).alloc _);have HE:=ł (xH (.mk k n s (.slice a l.length cap) l) (w.alloc (.cells #[.int .u8 k,.int .i64 n,.string s,.slice a l.length cap] 26)) (hx.later HG.out));simp only[ae.val,ae.t]at HE ⊢;clear hx;by_cases hk:k=2
 · have HR:=ł (show mh (.mk k n s (ae.ts l))=aM (.mk k n s (ae.ts l))from by rcases hk with rfl <;> simp[mh,Tree.kind]);generalize aM (.mk k n s (ae.ts l))=bv at *;rcases hk with rfl
   all_goals
    go_enter Tryz.func78,Tryz.ntmps78
    go_wp2_with fail;refine HE.out.mono ?_;rintro e w2 ⟨rfl,hg2⟩;have HG2:=ł (Mv.trans HG.out hg2 (λ_ e=>e.elim));clear hg2;go_wp2_with fail;go_ret;exact⟨aL HR.out.symm,HG2.out⟩
 · have hr2:(k == 2)=false:=(by simp <;> omega);have HR:=ł (show mh (.mk k n s (ae.ts l))=false from by simp[mh,Tree.kind,show ¬ k=2 from by omega])
   go_enter Tryz.func78,Tryz.ntmps78
   go_wp2_with fail;go_ret;exact⟨aL HR.out.symm,HG.out⟩
def JL (m:Nat):Prop:=∀ (x:ae),SizeOf.sizeOf x<=m->∀ w:World,aS w x->Calls Tryz.prog 54 #[x.val] w (iK w (bP x.t))
def Jn (m:Nat):Prop:=∀ (x:ae),SizeOf.sizeOf x<=m->∀ w:World,aS w x->Calls Tryz.prog 26 #[x.val] w (iK w (bW x.t))
theorem VZ (m:Nat) (ih:JL m):Jn (m+1):=by
 intro x hm w hx;obtain⟨k,n,s,kv,l⟩:=x;obtain⟨a,cap,rfl,hcap,hlen⟩:=hx.form;obtain⟨hk1,hk2⟩:=hx.row.1;have HIS:=ł (λ(y:ae) (hy:y∈l) (w':World) (hg:Grow w w')=>ih y (by have:=nA (k:=k) (n:=n) (s:=s) (kv := .slice a l.length cap) hy;omega) w' ((hx.row.2.2.2.2 y hy).later hg));have HX:=ł hx;clear ih hm hx;simp only[ae.val,ae.t];by_cases h57:k=57
 · subst h57;have HG:=ł (show Grow w (w.alloc (.cells #[.int .u8 57,.int .i64 n,.string s,.slice a l.length cap] 26))from(Mv.refl _ _).alloc _);have HB:=ł (heap_alloc_new w (.cells #[.int .u8 57,.int .i64 n,.string s,.slice a l.length cap] 26));have eZ:=ł (yM 57 n s a l cap (w.alloc (.cells #[.int .u8 57,.int .i64 n,.string s,.slice a l.length cap] 26)));have fU:=ł (show eD n s=false->bW (.mk 57 n s (ae.ts l))=false from λh=>by simp[bW,h]);have dU:=ł (show eD n s=true->bW (.mk 57 n s (ae.ts l))=(ae.ts l).all bP from λh=>by simp[bW,h,I1])
   go_enter Tryz.func26,Tryz.ntmps26
   go_wp2_with fail;refine eZ.out.mono ?_;rintro e w2 ⟨rfl,hg2⟩;have HG2:=ł (Mv.trans HG.out hg2 (λ_ e=>e.elim));have hb2:=ai HB.out hg2;obtain⟨m0,m1,m2,m3⟩:=dF hb2;have hlb:=lt_of_block hb2;clear hg2 hb2;generalize eD n s=pb at *
   cases pb with
   |false =>
    have HR:=ł (fU.out rfl);go_wp2_with fail;go_ret;exact⟨aL HR.out.symm,HG2.out⟩
   |true =>
    have HR:=ł (dU.out rfl);have HE:=ł (Jm (.slice a l.length cap) l 54 bP w2 (HX.out.row.2.2.2.1.later HG2.out) (λx hx=>(HX.out.row.2.2.2.2 x hx).later HG2.out) (.inl rfl) (λx hx w' hg=>HIS.out x hx w' (Mv.trans HG2.out hg (λ_ e=>e.elim))));go_wp2_with fail;refine HE.out.mono ?_;rintro e w3 ⟨rfl,hg3⟩;have aG:=ł (Mv.trans HG2.out hg3 (λ_ e=>e.elim));clear hg3;go_wp2_with fail;go_ret;exact⟨aL HR.out.symm,aG.out⟩
 · have acX:(k == 57)=false:=by simpa using h57
   have HG:=ł (show Grow w (w.alloc (.cells #[.int .u8 k,.int .i64 n,.string s,.slice a l.length cap] 26))from(Mv.refl _ _).alloc _);have HR:=ł (show bW (.mk k n s (ae.ts l))=false from by simp[bW,h57])
   go_enter Tryz.func26,Tryz.ntmps26
   go_wp2_with fail;go_ret;exact⟨aL HR.out.symm,HG.out⟩
theorem Wn (m:Nat) (ih:Jn m):JL (m+1):=by
 intro x hm w hx;obtain⟨k,n,s,kv,l⟩:=x;obtain⟨a,cap,rfl,hcap,hlen⟩:=hx.form;obtain⟨hk1,hk2⟩:=hx.row.1;have hs:=hx.row.2.2.1;have HX:=ł hx;have ed:=ł (λ(y:ae) (hy:y∈l) (w':World) (hg:Grow w w')=>ih y (by have:=nA (k:=k) (n:=n) (s:=s) (kv := .slice a l.length cap) hy;omega) w' ((hx.row.2.2.2.2 y hy).later hg));clear ih hm hx;simp only[ae.val,ae.t];by_cases hG:k=40\/k=41\/k=42\/k=56
 · have HG:=ł (show Grow w (w.alloc (.cells #[.int .u8 k,.int .i64 n,.string s,.slice a l.length cap] 26))from(Mv.refl _ _).alloc _);have HB:=ł (heap_alloc_new w (.cells #[.int .u8 k,.int .i64 n,.string s,.slice a l.length cap] 26));have eZ:=ł (yM k n s a l cap (w.alloc (.cells #[.int .u8 k,.int .i64 n,.string s,.slice a l.length cap] 26)));have fU:=ł (show eD n s=false->bP (.mk k n s (ae.ts l))=false from λh=>by rcases hG with rfl|rfl|rfl|rfl <;> simp[bP,h]);have dU:=ł (show eD n s=true->bP (.mk k n s (ae.ts l))=bV [ik,aM] (ae.ts l)from λh=>by rcases hG with rfl|rfl|rfl|rfl <;> simp[bP,h,uA,uB,uC,uu,uD]);rcases hG with rfl|rfl|rfl|rfl
   all_goals
    go_enter Tryz.func54,Tryz.ntmps54
    go_wp2_with fail;refine eZ.out.mono ?_;rintro e w2 ⟨rfl,hg2⟩;have HG2:=ł (Mv.trans HG.out hg2 (λ_ e=>e.elim));have hb2:=ai HB.out hg2;obtain⟨m0,m1,m2,m3⟩:=dF hb2;have hlb:=lt_of_block hb2;clear hg2 hb2;generalize eD n s=pb at *;cases pb with
    |false =>
     have HR:=ł (fU.out rfl);go_wp2_with fail;go_ret;exact⟨aL HR.out.symm,HG2.out⟩
    |true =>
     have HR:=ł (dU.out rfl);have aK:=ł (HG2.out.alloc (.cells #[.func (.func 76) #[] #[],.func (.func 60) #[] #[]] 64));have HK:=ł (uz _ n s (.slice a l.length cap) l [76,60] [ik,aM] (.slice (some ⟨w2.heap.size,0,none⟩) 2 2) (w2.alloc (.cells #[.func (.func 76) #[] #[],.func (.func 60) #[] #[]] 64)) (HX.out.later aK.out) (ax.bN (l:=[76,60]) (λ_=>rfl) (heap_alloc_new w2 _) rfl (by simp)) rfl (by decide) (λi hi hk hp w' hg=>by
      have hgw:=Mv.trans aK.out hg (λ_ e=>e.elim);have hm:=List.getElem_mem hk;simp only[List.length_cons,List.length_nil]at hi;rcases Nat.lt_or_ge i 1 with h0|h0
      · obtain rfl:i=0:=by omega
        exact BI _ w' ((HX.out.row.2.2.2.2 _ hm).later hgw)
      skip
      obtain rfl:i=1:=by omega
      exact xH _ w' ((HX.out.row.2.2.2.2 _ hm).later hgw)))
     simp only[ae.val]at HK;go_wp2_with fail;refine HK.out.mono ?_;rintro e w3 ⟨rfl,hg3⟩;have aG:=ł (Mv.trans aK.out hg3 (λ_ e=>e.elim));clear hg3;go_wp2_with fail;go_ret;exact⟨aL HR.out.symm,aG.out⟩
 have uU:k≠40:=by omega
 have uV:k≠41:=by omega
 have uW:k≠42:=by omega
 have qP:k≠56:=by omega
 clear hG;by_cases h43:k=43
 · subst h43;have HG:=ł (show Grow w (w.alloc (.cells #[.int .u8 43,.int .i64 n,.string s,.slice a l.length cap] 26))from(Mv.refl _ _).alloc _);have HB:=ł (heap_alloc_new w (.cells #[.int .u8 43,.int .i64 n,.string s,.slice a l.length cap] 26));have eZ:=ł (yM 43 n s a l cap (w.alloc (.cells #[.int .u8 43,.int .i64 n,.string s,.slice a l.length cap] 26)));have fU:=ł (show eD n s=false->bP (.mk 43 n s (ae.ts l))=false from λh=>by simp[bP,h]);have dU:=ł (show eD n s=true->bP (.mk 43 n s (ae.ts l))=bV [ik,ik] (ae.ts l)from λh=>by simp[bP,h,uA,uB,uC,uu,uD])
   go_enter Tryz.func54,Tryz.ntmps54
   go_wp2_with fail;refine eZ.out.mono ?_;rintro e w2 ⟨rfl,hg2⟩;have HG2:=ł (Mv.trans HG.out hg2 (λ_ e=>e.elim));have hb2:=ai HB.out hg2;obtain⟨m0,m1,m2,m3⟩:=dF hb2;have hlb:=lt_of_block hb2;clear hg2 hb2;generalize eD n s=pb at *;cases pb with
   |false =>
    have HR:=ł (fU.out rfl);go_wp2_with fail;go_ret;exact⟨aL HR.out.symm,HG2.out⟩
   |true =>
    have HR:=ł (dU.out rfl);have aK:=ł (HG2.out.alloc (.cells #[.func (.func 76) #[] #[],.func (.func 76) #[] #[]] 64));have HK:=ł (uz 43 n s (.slice a l.length cap) l [76,76] [ik,ik] (.slice (some ⟨w2.heap.size,0,none⟩) 2 2) (w2.alloc (.cells #[.func (.func 76) #[] #[],.func (.func 76) #[] #[]] 64)) (HX.out.later aK.out) (ax.bN (l:=[76,76]) (λ_=>rfl) (heap_alloc_new w2 _) rfl (by simp)) rfl (by decide) (λi hi hk hp w' hg=>by
     have hgw:=Mv.trans aK.out hg (λ_ e=>e.elim);have hm:=List.getElem_mem hk;simp only[List.length_cons,List.length_nil]at hi;rcases Nat.lt_or_ge i 1 with h0|h0
     · obtain rfl:i=0:=by omega
       exact BI _ w' ((HX.out.row.2.2.2.2 _ hm).later hgw)
     skip
     obtain rfl:i=1:=by omega
     exact BI _ w' ((HX.out.row.2.2.2.2 _ hm).later hgw)))
    simp only[ae.val]at HK;go_wp2_with fail;refine HK.out.mono ?_;rintro e w3 ⟨rfl,hg3⟩;have aG:=ł (Mv.trans aK.out hg3 (λ_ e=>e.elim));clear hg3;go_wp2_with fail;go_ret;exact⟨aL HR.out.symm,aG.out⟩
 by_cases hG:k=44\/k=45
 · have HG:=ł (show Grow w (w.alloc (.cells #[.int .u8 k,.int .i64 n,.string s,.slice a l.length cap] 26))from(Mv.refl _ _).alloc _);have HB:=ł (heap_alloc_new w (.cells #[.int .u8 k,.int .i64 n,.string s,.slice a l.length cap] 26));have eZ:=ł (yN k n s a l cap (w.alloc (.cells #[.int .u8 k,.int .i64 n,.string s,.slice a l.length cap] 26)) hs);have fU:=ł (show fF n s=false->bP (.mk k n s (ae.ts l))=false from λh=>by rcases hG with rfl|rfl <;> simp[bP,h]);have dU:=ł (show fF n s=true->bP (.mk k n s (ae.ts l))=bV [ik] (ae.ts l)from λh=>by rcases hG with rfl|rfl <;> simp[bP,h,uA,uB,uC,uu,uD]);rcases hG with rfl|rfl
   all_goals
    go_enter Tryz.func54,Tryz.ntmps54
    go_wp2_with fail;refine eZ.out.mono ?_;rintro e w2 ⟨rfl,hg2⟩;have HG2:=ł (Mv.trans HG.out hg2 (λ_ e=>e.elim));have hb2:=ai HB.out hg2;obtain⟨m0,m1,m2,m3⟩:=dF hb2;have hlb:=lt_of_block hb2;clear hg2 hb2;generalize fF n s=pb at *;cases pb with
    |false =>
     have HR:=ł (fU.out rfl);go_wp2_with fail;go_ret;exact⟨aL HR.out.symm,HG2.out⟩
    |true =>
     have HR:=ł (dU.out rfl);have aK:=ł (HG2.out.alloc (.cells #[.func (.func 76) #[] #[]] 64));have HK:=ł (uz _ n s (.slice a l.length cap) l [76] [ik] (.slice (some ⟨w2.heap.size,0,none⟩) 1 1) (w2.alloc (.cells #[.func (.func 76) #[] #[]] 64)) (HX.out.later aK.out) (ax.bN (l:=[76]) (λ_=>rfl) (heap_alloc_new w2 _) rfl (by simp)) rfl (by decide) (λi hi hk hp w' hg=>by
      have hgw:=Mv.trans aK.out hg (λ_ e=>e.elim);have hm:=List.getElem_mem hk;simp only[List.length_cons,List.length_nil]at hi
      skip
      obtain rfl:i=0:=by omega
      exact BI _ w' ((HX.out.row.2.2.2.2 _ hm).later hgw)))
     simp only[ae.val]at HK;go_wp2_with fail;refine HK.out.mono ?_;rintro e w3 ⟨rfl,hg3⟩;have aG:=ł (Mv.trans aK.out hg3 (λ_ e=>e.elim));clear hg3;go_wp2_with fail;go_ret;exact⟨aL HR.out.symm,aG.out⟩
 have oq:k≠44:=by omega
 have h45:k≠45:=by omega
 clear hG;by_cases hG:k=46\/k=47\/k=48\/k=49
 · have HG:=ł (show Grow w (w.alloc (.cells #[.int .u8 k,.int .i64 n,.string s,.slice a l.length cap] 26))from(Mv.refl _ _).alloc _);have HB:=ł (heap_alloc_new w (.cells #[.int .u8 k,.int .i64 n,.string s,.slice a l.length cap] 26));have eZ:=ł (yM k n s a l cap (w.alloc (.cells #[.int .u8 k,.int .i64 n,.string s,.slice a l.length cap] 26)));have fU:=ł (show eD n s=false->bP (.mk k n s (ae.ts l))=false from λh=>by rcases hG with rfl|rfl|rfl|rfl <;> simp[bP,h]);have dU:=ł (show eD n s=true->bP (.mk k n s (ae.ts l))=bV [ik] (ae.ts l)from λh=>by rcases hG with rfl|rfl|rfl|rfl <;> simp[bP,h,uA,uB,uC,uu,uD]);rcases hG with rfl|rfl|rfl|rfl
   all_goals
    go_enter Tryz.func54,Tryz.ntmps54
    go_wp2_with fail;refine eZ.out.mono ?_;rintro e w2 ⟨rfl,hg2⟩;have HG2:=ł (Mv.trans HG.out hg2 (λ_ e=>e.elim));have hb2:=ai HB.out hg2;obtain⟨m0,m1,m2,m3⟩:=dF hb2;have hlb:=lt_of_block hb2;clear hg2 hb2;generalize eD n s=pb at *;cases pb with
    |false =>
     have HR:=ł (fU.out rfl);go_wp2_with fail;go_ret;exact⟨aL HR.out.symm,HG2.out⟩
    |true =>
     have HR:=ł (dU.out rfl);have aK:=ł (HG2.out.alloc (.cells #[.func (.func 76) #[] #[]] 64));have HK:=ł (uz _ n s (.slice a l.length cap) l [76] [ik] (.slice (some ⟨w2.heap.size,0,none⟩) 1 1) (w2.alloc (.cells #[.func (.func 76) #[] #[]] 64)) (HX.out.later aK.out) (ax.bN (l:=[76]) (λ_=>rfl) (heap_alloc_new w2 _) rfl (by simp)) rfl (by decide) (λi hi hk hp w' hg=>by
      have hgw:=Mv.trans aK.out hg (λ_ e=>e.elim);have hm:=List.getElem_mem hk;simp only[List.length_cons,List.length_nil]at hi
      skip
      obtain rfl:i=0:=by omega
      exact BI _ w' ((HX.out.row.2.2.2.2 _ hm).later hgw)))
     simp only[ae.val]at HK;go_wp2_with fail;refine HK.out.mono ?_;rintro e w3 ⟨rfl,hg3⟩;have aG:=ł (Mv.trans aK.out hg3 (λ_ e=>e.elim));clear hg3;go_wp2_with fail;go_ret;exact⟨aL HR.out.symm,aG.out⟩
 have h46:k≠46:=by omega
 have h47:k≠47:=by omega
 have h48:k≠48:=by omega
 have zJ:k≠49:=by omega
 clear hG;by_cases h50:k=50
 · subst h50;have HG:=ł (show Grow w (w.alloc (.cells #[.int .u8 50,.int .i64 n,.string s,.slice a l.length cap] 26))from(Mv.refl _ _).alloc _);have HB:=ł (heap_alloc_new w (.cells #[.int .u8 50,.int .i64 n,.string s,.slice a l.length cap] 26));have eZ:=ł (yN 50 n s a l cap (w.alloc (.cells #[.int .u8 50,.int .i64 n,.string s,.slice a l.length cap] 26)) hs);have fU:=ł (show fF n s=false->bP (.mk 50 n s (ae.ts l))=false from λh=>by simp[bP,h]);have dU:=ł (show fF n s=true->bP (.mk 50 n s (ae.ts l))=(decide (l.length<=8) && (ae.ts l).all mh)from λh=>by simp[bP,h,ae.bT])
   go_enter Tryz.func54,Tryz.ntmps54
   go_wp2_with fail;refine eZ.out.mono ?_;rintro e w2 ⟨rfl,hg2⟩;have HG2:=ł (Mv.trans HG.out hg2 (λ_ e=>e.elim));have hb2:=ai HB.out hg2;obtain⟨m0,m1,m2,m3⟩:=dF hb2;have hlb:=lt_of_block hb2;clear hg2 hb2;generalize fF n s=pb at *;cases pb with
   |false =>
    have HR:=ł (fU.out rfl);go_wp2_with fail;go_ret;exact⟨aL HR.out.symm,HG2.out⟩
   |true =>
    by_cases h8:l.length<=8
    · have HR:=ł (show bP (.mk 50 n s (ae.ts l))=(ae.ts l).all mh from by rw[dU.out rfl];simp[h8]);have HE:=ł (Jm (.slice a l.length cap) l 78 mh w2 (HX.out.row.2.2.2.1.later HG2.out) (λx hx=>(HX.out.row.2.2.2.2 x hx).later HG2.out) (.inr rfl) (λx hx w' hg=>OM x w' ((HX.out.row.2.2.2.2 x hx).later (Mv.trans HG2.out hg (λ_ e=>e.elim)))));go_wp2_with fail;refine HE.out.mono ?_;rintro e w3 ⟨rfl,hg3⟩;have aG:=ł (Mv.trans HG2.out hg3 (λ_ e=>e.elim));clear hg3;go_wp2_with fail;go_ret;exact⟨aL HR.out.symm,aG.out⟩
    · have HR:=ł (show bP (.mk 50 n s (ae.ts l))=false from by rw[dU.out rfl];simp[h8]);go_wp2_with fail;go_ret;exact⟨aL HR.out.symm,HG2.out⟩
 by_cases kZ:k=51
 · subst kZ;have HG:=ł (show Grow w (w.alloc (.cells #[.int .u8 51,.int .i64 n,.string s,.slice a l.length cap] 26))from(Mv.refl _ _).alloc _);have HB:=ł (heap_alloc_new w (.cells #[.int .u8 51,.int .i64 n,.string s,.slice a l.length cap] 26));have eZ:=ł (yN 51 n s a l cap (w.alloc (.cells #[.int .u8 51,.int .i64 n,.string s,.slice a l.length cap] 26)) hs);have fU:=ł (show fF n s=false->bP (.mk 51 n s (ae.ts l))=false from λh=>by simp[bP,h]);have dU:=ł (show fF n s=true->bP (.mk 51 n s (ae.ts l))=(decide (l.length<=8) && (ae.ts l).all mh)from λh=>by simp[bP,h,ae.bT])
   go_enter Tryz.func54,Tryz.ntmps54
   go_wp2_with fail;refine eZ.out.mono ?_;rintro e w2 ⟨rfl,hg2⟩;have HG2:=ł (Mv.trans HG.out hg2 (λ_ e=>e.elim));have hb2:=ai HB.out hg2;obtain⟨m0,m1,m2,m3⟩:=dF hb2;have hlb:=lt_of_block hb2;clear hg2 hb2;generalize fF n s=pb at *;cases pb with
   |false =>
    have HR:=ł (fU.out rfl);go_wp2_with fail;go_ret;exact⟨aL HR.out.symm,HG2.out⟩
   |true =>
    by_cases h8:l.length<=8
    · have HR:=ł (show bP (.mk 51 n s (ae.ts l))=(ae.ts l).all mh from by rw[dU.out rfl];simp[h8]);have HE:=ł (Jm (.slice a l.length cap) l 78 mh w2 (HX.out.row.2.2.2.1.later HG2.out) (λx hx=>(HX.out.row.2.2.2.2 x hx).later HG2.out) (.inr rfl) (λx hx w' hg=>OM x w' ((HX.out.row.2.2.2.2 x hx).later (Mv.trans HG2.out hg (λ_ e=>e.elim)))));go_wp2_with fail;refine HE.out.mono ?_;rintro e w3 ⟨rfl,hg3⟩;have aG:=ł (Mv.trans HG2.out hg3 (λ_ e=>e.elim));clear hg3;go_wp2_with fail;go_ret;exact⟨aL HR.out.symm,aG.out⟩
    · have HR:=ł (show bP (.mk 51 n s (ae.ts l))=false from by rw[dU.out rfl];simp[h8]);go_wp2_with fail;go_ret;exact⟨aL HR.out.symm,HG2.out⟩
 by_cases hG:k=52\/k=53
 · have HG:=ł (show Grow w (w.alloc (.cells #[.int .u8 k,.int .i64 n,.string s,.slice a l.length cap] 26))from(Mv.refl _ _).alloc _);have HB:=ł (heap_alloc_new w (.cells #[.int .u8 k,.int .i64 n,.string s,.slice a l.length cap] 26));have eZ:=ł (yM k n s a l cap (w.alloc (.cells #[.int .u8 k,.int .i64 n,.string s,.slice a l.length cap] 26)));have fU:=ł (show eD n s=false->bP (.mk k n s (ae.ts l))=false from λh=>by rcases hG with rfl|rfl <;> simp[bP,h]);have dU:=ł (show eD n s=true->bP (.mk k n s (ae.ts l))=bV [aM,bW,bW,aM] (ae.ts l)from λh=>by rcases hG with rfl|rfl <;> simp[bP,h,uA,uB,uC,uu,uD]);rcases hG with rfl|rfl
   all_goals
    go_enter Tryz.func54,Tryz.ntmps54
    go_wp2_with fail;refine eZ.out.mono ?_;rintro e w2 ⟨rfl,hg2⟩;have HG2:=ł (Mv.trans HG.out hg2 (λ_ e=>e.elim));have hb2:=ai HB.out hg2;obtain⟨m0,m1,m2,m3⟩:=dF hb2;have hlb:=lt_of_block hb2;clear hg2 hb2;generalize eD n s=pb at *;cases pb with
    |false =>
     have HR:=ł (fU.out rfl);go_wp2_with fail;go_ret;exact⟨aL HR.out.symm,HG2.out⟩
    |true =>
     have HR:=ł (dU.out rfl);have aK:=ł (HG2.out.alloc (.cells #[.func (.func 60) #[] #[],.func (.func 26) #[] #[],.func (.func 26) #[] #[],.func (.func 60) #[] #[]] 64));have HK:=ł (uz _ n s (.slice a l.length cap) l [60,26,26,60] [aM,bW,bW,aM] (.slice (some ⟨w2.heap.size,0,none⟩) 4 4) (w2.alloc (.cells #[.func (.func 60) #[] #[],.func (.func 26) #[] #[],.func (.func 26) #[] #[],.func (.func 60) #[] #[]] 64)) (HX.out.later aK.out) (ax.bN (l:=[60,26,26,60]) (λ_=>rfl) (heap_alloc_new w2 _) rfl (by simp)) rfl (by decide) (λi hi hk hp w' hg=>by
      have hgw:=Mv.trans aK.out hg (λ_ e=>e.elim);have hm:=List.getElem_mem hk;simp only[List.length_cons,List.length_nil]at hi;rcases Nat.lt_or_ge i 1 with h0|h0
      · obtain rfl:i=0:=by omega
        exact xH _ w' ((HX.out.row.2.2.2.2 _ hm).later hgw)
      rcases Nat.lt_or_ge i 2 with h1|h1
      · obtain rfl:i=1:=by omega
        exact ed.out _ hm w' hgw
      rcases Nat.lt_or_ge i 3 with h2|h2
      · obtain rfl:i=2:=by omega
        exact ed.out _ hm w' hgw
      skip
      obtain rfl:i=3:=by omega
      exact xH _ w' ((HX.out.row.2.2.2.2 _ hm).later hgw)))
     simp only[ae.val]at HK;go_wp2_with fail;refine HK.out.mono ?_;rintro e w3 ⟨rfl,hg3⟩;have aG:=ł (Mv.trans aK.out hg3 (λ_ e=>e.elim));clear hg3;go_wp2_with fail;go_ret;exact⟨aL HR.out.symm,aG.out⟩
 have tJ:k≠52:=by omega
 have tK:k≠53:=by omega
 clear hG;by_cases jJ:k=54
 · subst jJ;have HG:=ł (show Grow w (w.alloc (.cells #[.int .u8 54,.int .i64 n,.string s,.slice a l.length cap] 26))from(Mv.refl _ _).alloc _);have HB:=ł (heap_alloc_new w (.cells #[.int .u8 54,.int .i64 n,.string s,.slice a l.length cap] 26));have eZ:=ł (yN 54 n s a l cap (w.alloc (.cells #[.int .u8 54,.int .i64 n,.string s,.slice a l.length cap] 26)) hs);have fU:=ł (show fF n s=false->bP (.mk 54 n s (ae.ts l))=false from λh=>by simp[bP,h]);have dU:=ł (show fF n s=true->bP (.mk 54 n s (ae.ts l))=bV [aM,bW,aM] (ae.ts l)from λh=>by simp[bP,h,uA,uB,uC,uu,uD])
   go_enter Tryz.func54,Tryz.ntmps54
   go_wp2_with fail;refine eZ.out.mono ?_;rintro e w2 ⟨rfl,hg2⟩;have HG2:=ł (Mv.trans HG.out hg2 (λ_ e=>e.elim));have hb2:=ai HB.out hg2;obtain⟨m0,m1,m2,m3⟩:=dF hb2;have hlb:=lt_of_block hb2;clear hg2 hb2;generalize fF n s=pb at *;cases pb with
   |false =>
    have HR:=ł (fU.out rfl);go_wp2_with fail;go_ret;exact⟨aL HR.out.symm,HG2.out⟩
   |true =>
    have HR:=ł (dU.out rfl);have aK:=ł (HG2.out.alloc (.cells #[.func (.func 60) #[] #[],.func (.func 26) #[] #[],.func (.func 60) #[] #[]] 64));have HK:=ł (uz 54 n s (.slice a l.length cap) l [60,26,60] [aM,bW,aM] (.slice (some ⟨w2.heap.size,0,none⟩) 3 3) (w2.alloc (.cells #[.func (.func 60) #[] #[],.func (.func 26) #[] #[],.func (.func 60) #[] #[]] 64)) (HX.out.later aK.out) (ax.bN (l:=[60,26,60]) (λ_=>rfl) (heap_alloc_new w2 _) rfl (by simp)) rfl (by decide) (λi hi hk hp w' hg=>by
     have hgw:=Mv.trans aK.out hg (λ_ e=>e.elim);have hm:=List.getElem_mem hk;simp only[List.length_cons,List.length_nil]at hi;rcases Nat.lt_or_ge i 1 with h0|h0
     · obtain rfl:i=0:=by omega
       exact xH _ w' ((HX.out.row.2.2.2.2 _ hm).later hgw)
     rcases Nat.lt_or_ge i 2 with h1|h1
     · obtain rfl:i=1:=by omega
       exact ed.out _ hm w' hgw
     skip
     obtain rfl:i=2:=by omega
     exact xH _ w' ((HX.out.row.2.2.2.2 _ hm).later hgw)))
    simp only[ae.val]at HK;go_wp2_with fail;refine HK.out.mono ?_;rintro e w3 ⟨rfl,hg3⟩;have aG:=ł (Mv.trans aK.out hg3 (λ_ e=>e.elim));clear hg3;go_wp2_with fail;go_ret;exact⟨aL HR.out.symm,aG.out⟩
 by_cases jK:k=55
 · subst jK;have HG:=ł (show Grow w (w.alloc (.cells #[.int .u8 55,.int .i64 n,.string s,.slice a l.length cap] 26))from(Mv.refl _ _).alloc _);have HB:=ł (heap_alloc_new w (.cells #[.int .u8 55,.int .i64 n,.string s,.slice a l.length cap] 26));have eZ:=ł (yN 55 n s a l cap (w.alloc (.cells #[.int .u8 55,.int .i64 n,.string s,.slice a l.length cap] 26)) hs);have fU:=ł (show fF n s=false->bP (.mk 55 n s (ae.ts l))=false from λh=>by simp[bP,h]);have dU:=ł (show fF n s=true->bP (.mk 55 n s (ae.ts l))=bV [bW] (ae.ts l)from λh=>by simp[bP,h,uA,uB,uC,uu,uD])
   go_enter Tryz.func54,Tryz.ntmps54
   go_wp2_with fail;refine eZ.out.mono ?_;rintro e w2 ⟨rfl,hg2⟩;have HG2:=ł (Mv.trans HG.out hg2 (λ_ e=>e.elim));have hb2:=ai HB.out hg2;obtain⟨m0,m1,m2,m3⟩:=dF hb2;have hlb:=lt_of_block hb2;clear hg2 hb2;generalize fF n s=pb at *;cases pb with
   |false =>
    have HR:=ł (fU.out rfl);go_wp2_with fail;go_ret;exact⟨aL HR.out.symm,HG2.out⟩
   |true =>
    have HR:=ł (dU.out rfl);have aK:=ł (HG2.out.alloc (.cells #[.func (.func 26) #[] #[]] 64));have HK:=ł (uz 55 n s (.slice a l.length cap) l [26] [bW] (.slice (some ⟨w2.heap.size,0,none⟩) 1 1) (w2.alloc (.cells #[.func (.func 26) #[] #[]] 64)) (HX.out.later aK.out) (ax.bN (l:=[26]) (λ_=>rfl) (heap_alloc_new w2 _) rfl (by simp)) rfl (by decide) (λi hi hk hp w' hg=>by
     have hgw:=Mv.trans aK.out hg (λ_ e=>e.elim);have hm:=List.getElem_mem hk;simp only[List.length_cons,List.length_nil]at hi
     skip
     obtain rfl:i=0:=by omega
     exact ed.out _ hm w' hgw))
    simp only[ae.val]at HK;go_wp2_with fail;refine HK.out.mono ?_;rintro e w3 ⟨rfl,hg3⟩;have aG:=ł (Mv.trans aK.out hg3 (λ_ e=>e.elim));clear hg3;go_wp2_with fail;go_ret;exact⟨aL HR.out.symm,aG.out⟩
 have acY:(k == 40)=false:=by simp;omega
 have acZ:(k == 41)=false:=by simp;omega
 have ac0:(k == 42)=false:=by simp;omega
 have ac1:(k == 43)=false:=by simp;omega
 have _F:(k == 44)=false:=by simp;omega
 have _G:(k == 45)=false:=by simp;omega
 have ac2:(k == 46)=false:=by simp;omega
 have ac3:(k == 47)=false:=by simp;omega
 have ac4:(k == 48)=false:=by simp;omega
 have ac5:(k == 49)=false:=by simp;omega
 have _H:(k == 50)=false:=by simp;omega
 have _I:(k == 51)=false:=by simp;omega
 have ac6:(k == 52)=false:=by simp;omega
 have ac7:(k == 53)=false:=by simp;omega
 have _J:(k == 54)=false:=by simp;omega
 have _O:(k == 55)=false:=by simp;omega
 have ac8:(k == 56)=false:=by simp;omega
 have HG:=ł (show Grow w (w.alloc (.cells #[.int .u8 k,.int .i64 n,.string s,.slice a l.length cap] 26))from(Mv.refl _ _).alloc _);have HR:=ł (show bP (.mk k n s (ae.ts l))=false from by simp[bP,uU,uV,uW,h43,oq,h45,h46,h47,h48,zJ,h50,kZ,tJ,tK,jJ,jK,qP]);clear uU uV uW h43 oq h45 h46 h47 h48 zJ h50 kZ tJ tK jJ jK qP
 go_enter Tryz.func54,Tryz.ntmps54
 go_wp2_with fail;go_ret;exact⟨aL HR.out.symm,HG.out⟩
theorem I4:∀ m:Nat,JL m/\Jn m
 |0=>⟨λx hm=>by cases x;simp at hm,λx hm=>by cases x;simp at hm⟩
 |m+1=>⟨Wn m (I4 m).2,VZ m (I4 m).1⟩
theorem II (x:ae) (w:World) (h:aS w x):Calls Tryz.prog 26 #[x.val] w (iK w (bW x.t)):=(I4 _).2 x (Nat.le_refl _) w h
end Go.Proofs.YtnobahchcongnaaGreat
