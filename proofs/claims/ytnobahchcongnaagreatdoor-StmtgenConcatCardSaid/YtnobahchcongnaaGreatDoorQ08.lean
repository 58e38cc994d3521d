import Derived.Test.YtnobahchcongnaaGreatDoorQ07
set_option linter.unusedSimpArgs false
set_option linter.unusedVariables false
set_option maxRecDepth 100000
set_option maxHeartbeats 25600000
namespace Go.Proofs.YtnobahchcongnaaGreatDoor
open Go.RowKit Go.Instr
theorem kM (l:List Tree):bL [aI] l=(l.length == 1 && iV l):=by
 match l with
 | []=>rfl
 | [t]=>simp [bL,iV]
 | _ :: _ :: _=>simp [bL]
theorem kN (l:List Tree):bL [aI,aI] l=(l.length == 2 && iV l):=by
 match l with
 | []=>rfl
 | [t]=>simp [bL]
 | [t,u]=>simp [bL,iV]
 | _ :: _ :: _ :: _=>simp [bL]
theorem kP (l:List Tree):bL [aI,dw,dw,aI] l=(bL [aI,fun _=>true,fun _=>true,aI] l && ((lI l)[1]?.getD false && (lI l)[2]?.getD false)):=by
 match l with
 | []=>rfl
 | [_]=>simp [bL]
 | [_,_]=>simp [bL]
 | [_,_,_]=>simp [bL]
 | [a,b,c,d] =>
  simp only [bL,EM,List.map_cons,List.map_nil,List.getElem?_cons_succ,List.getElem?_cons_zero,Option.getD_some,Bool.and_true,Bool.true_and];cases aI a <;> cases dw b <;> cases dw c <;> cases aI d <;> rfl
 | _ :: _ :: _ :: _ :: _ :: _=>simp [bL]
theorem kJ (l:List Tree):bL [aI,dw,aI] l=(bL [aI,fun _=>true,aI] l && (lI l)[1]?.getD false):=by
 match l with
 | []=>rfl
 | [_]=>simp [bL]
 | [_,_]=>simp [bL]
 | [a,b,c] =>
  simp only [bL,EM,List.map_cons,List.map_nil,List.getElem?_cons_succ,List.getElem?_cons_zero,Option.getD_some,Bool.and_true,Bool.true_and];cases aI a <;> cases dw b <;> cases aI c <;> rfl
 | _ :: _ :: _ :: _ :: _=>simp [bL]
theorem kQ (l:List Tree):bL [dw] l=(l.length == 1 && (lI l)[0]?.getD false):=by
 match l with
 | []=>rfl
 | [t]=>simp [bL,EM]
 | _ :: _ :: _=>simp [bL]
theorem Vv:∀ (m:Nat) (x:ae),SizeOf.sizeOf x≤m→∀ w:World,aV w x→Calls Tryz.prog 57 #[x.val] w (jN w (aI x.t)):=by
 intro m
 induction m with
 | zero=>intro x hm;cases x;simp at hm
 | succ m ih =>
  intro x hm w hx;obtain ⟨k,n,s,kv,l⟩:=x;obtain ⟨a,cap,rfl,hcap,hlen⟩:=hx.form;obtain ⟨hk1,hk2⟩:=hx.row.1;have hs:=hx.row.2.2.1;have HX:=ł hx;have fG:=ł (fun (y:ae) (hy:y∈l) (w':World) (hg:Grow w w')=>ih y (by have:=nV (k:=k) (n:=n) (s:=s) (kv := .slice a l.length cap) hy;omega) w' ((hx.row.2.2.2.2 y hy).later hg));clear ih hm hx;simp only [ae.val,ae.t];by_cases h1:k=1
  · subst h1;have HG:=ł (show Grow w (w.alloc (.cells #[.int .u8 1,.int .i64 n,.string s,.slice a l.length cap] 24)) from (Mv.refl _ _).alloc _);by_cases hn0:0≤n
    · by_cases hs0:s.size=0
      · have hemp:=Mh hs0;cases l with
        | nil =>
         have HR:=ł (show aI (.mk 1 n s (ae.ts []))=true from by simp [aI,hn0,hs0,ae.ts]);simp only [List.length_nil] at HG ⊢;clear hs0
         go_enter Tryz.func57,Tryz.ntmps57
         go_wp2_with fail;go_ret;exact ⟨aD HR.out.symm,HG.out⟩
        | cons x r =>
         have HR:=ł (show aI (.mk 1 n s (ae.ts (x :: r)))=false from by simp [aI,ae.ts]);have hl1:((r.length+1:Nat) == 0)=false:=by simp
         simp only [List.length_cons] at HG ⊢;clear hs0
         go_enter Tryz.func57,Tryz.ntmps57
         go_wp2_with fail;go_ret;exact ⟨aD HR.out.symm,HG.out⟩
      · have hne:=Bg (s:=s) (by omega);have HR:=ł (show aI (.mk 1 n s (ae.ts l))=false from by simp [aI,hs0]);clear hs0
        go_enter Tryz.func57,Tryz.ntmps57
        go_wp2_with fail;go_ret;exact ⟨aD HR.out.symm,HG.out⟩
    · have HR:=ł (show aI (.mk 1 n s (ae.ts l))=false from by simp [aI,hn0])
      go_enter Tryz.func57,Tryz.ntmps57
      go_wp2_with fail;go_ret;exact ⟨aD HR.out.symm,HG.out⟩
  by_cases h2:k=2
  · subst h2;have HG:=ł (show Grow w (w.alloc (.cells #[.int .u8 2,.int .i64 n,.string s,.slice a l.length cap] 24)) from (Mv.refl _ _).alloc _);have HB:=ł (heap_alloc_new w (.cells #[.int .u8 2,.int .i64 n,.string s,.slice a l.length cap] 24));have dh:=ł (tO 2 n s a l cap (w.alloc (.cells #[.int .u8 2,.int .i64 n,.string s,.slice a l.length cap] 24)) hs);have dA:=ł (show dO n s=false→aI (.mk 2 n s (ae.ts l))=false from fun h=>by simp [aI,h]);have bZ:=ł (show dO n s=true→aI (.mk 2 n s (ae.ts l))=l.isEmpty from fun h=>by simp [aI,h,ae.dP])
    go_enter Tryz.func57,Tryz.ntmps57
    go_wp2_with fail;refine dh.out.mono ?_;rintro e w2 ⟨rfl,hg2⟩;have HG2:=ł (Mv.trans HG.out hg2 (fun _ e=>e.elim));have hb2:=ai HB.out hg2;obtain ⟨m0,m1,m2,m3⟩:=dm hb2;have hlb:=lt_of_block hb2;clear hg2 hb2;generalize dO n s=pb at *;cases pb with
    | false =>
     have HR:=ł (dA.out rfl);go_wp2_with fail;go_ret;exact ⟨aD HR.out.symm,HG2.out⟩
    | true =>
     have HR:=ł (bZ.out rfl);cases l with
     | nil =>
      simp only [List.length_nil] at m3 ⊢;go_wp2_with fail;go_ret;exact ⟨aD HR.out.symm,HG2.out⟩
     | cons x r =>
      have hl1:((r.length+1:Nat) == 0)=false:=by simp
      simp only [List.length_cons] at m3 ⊢;go_wp2_with fail;go_ret;exact ⟨aD HR.out.symm,HG2.out⟩
  by_cases h4:k=4
  · subst h4;have HG:=ł (show Grow w (w.alloc (.cells #[.int .u8 4,.int .i64 n,.string s,.slice a l.length cap] 24)) from (Mv.refl _ _).alloc _);have HB:=ł (heap_alloc_new w (.cells #[.int .u8 4,.int .i64 n,.string s,.slice a l.length cap] 24));have dh:=ł (tO 4 n s a l cap (w.alloc (.cells #[.int .u8 4,.int .i64 n,.string s,.slice a l.length cap] 24)) hs);have dA:=ł (show dO n s=false→aI (.mk 4 n s (ae.ts l))=false from fun h=>by simp [aI,h]);have bZ:=ł (show dO n s=true→aI (.mk 4 n s (ae.ts l))=l.isEmpty from fun h=>by simp [aI,h,ae.dP])
    go_enter Tryz.func57,Tryz.ntmps57
    go_wp2_with fail;refine dh.out.mono ?_;rintro e w2 ⟨rfl,hg2⟩;have HG2:=ł (Mv.trans HG.out hg2 (fun _ e=>e.elim));have hb2:=ai HB.out hg2;obtain ⟨m0,m1,m2,m3⟩:=dm hb2;have hlb:=lt_of_block hb2;clear hg2 hb2;generalize dO n s=pb at *;cases pb with
    | false =>
     have HR:=ł (dA.out rfl);go_wp2_with fail;go_ret;exact ⟨aD HR.out.symm,HG2.out⟩
    | true =>
     have HR:=ł (bZ.out rfl);cases l with
     | nil =>
      simp only [List.length_nil] at m3 ⊢;go_wp2_with fail;go_ret;exact ⟨aD HR.out.symm,HG2.out⟩
     | cons x r =>
      have hl1:((r.length+1:Nat) == 0)=false:=by simp
      simp only [List.length_cons] at m3 ⊢;go_wp2_with fail;go_ret;exact ⟨aD HR.out.symm,HG2.out⟩
  by_cases h5:k=5
  · subst h5;have HG:=ł (show Grow w (w.alloc (.cells #[.int .u8 5,.int .i64 n,.string s,.slice a l.length cap] 24)) from (Mv.refl _ _).alloc _);have HB:=ł (heap_alloc_new w (.cells #[.int .u8 5,.int .i64 n,.string s,.slice a l.length cap] 24));have dh:=ł (tO 5 n s a l cap (w.alloc (.cells #[.int .u8 5,.int .i64 n,.string s,.slice a l.length cap] 24)) hs);have dA:=ł (show dO n s=false→aI (.mk 5 n s (ae.ts l))=false from fun h=>by simp [aI,h]);have bZ:=ł (show dO n s=true→aI (.mk 5 n s (ae.ts l))=l.isEmpty from fun h=>by simp [aI,h,ae.dP])
    go_enter Tryz.func57,Tryz.ntmps57
    go_wp2_with fail;refine dh.out.mono ?_;rintro e w2 ⟨rfl,hg2⟩;have HG2:=ł (Mv.trans HG.out hg2 (fun _ e=>e.elim));have hb2:=ai HB.out hg2;obtain ⟨m0,m1,m2,m3⟩:=dm hb2;have hlb:=lt_of_block hb2;clear hg2 hb2;generalize dO n s=pb at *;cases pb with
    | false =>
     have HR:=ł (dA.out rfl);go_wp2_with fail;go_ret;exact ⟨aD HR.out.symm,HG2.out⟩
    | true =>
     have HR:=ł (bZ.out rfl);cases l with
     | nil =>
      simp only [List.length_nil] at m3 ⊢;go_wp2_with fail;go_ret;exact ⟨aD HR.out.symm,HG2.out⟩
     | cons x r =>
      have hl1:((r.length+1:Nat) == 0)=false:=by simp
      simp only [List.length_cons] at m3 ⊢;go_wp2_with fail;go_ret;exact ⟨aD HR.out.symm,HG2.out⟩
  by_cases h3:k=3
  · subst h3;have HG:=ł (show Grow w (w.alloc (.cells #[.int .u8 3,.int .i64 n,.string s,.slice a l.length cap] 24)) from (Mv.refl _ _).alloc _);have HB:=ł (heap_alloc_new w (.cells #[.int .u8 3,.int .i64 n,.string s,.slice a l.length cap] 24));have dh:=ł (tO 3 n s a l cap (w.alloc (.cells #[.int .u8 3,.int .i64 n,.string s,.slice a l.length cap] 24)) hs);have dA:=ł (show dO n s=false→aI (.mk 3 n s (ae.ts l))=false from fun h=>by simp [aI,h]);have bZ:=ł (show dO n s=true→aI (.mk 3 n s (ae.ts l))=bL [aI] (ae.ts l) from fun h=>by simp [aI,h,kM,kN,kP,kJ,kQ])
    go_enter Tryz.func57,Tryz.ntmps57
    go_wp2_with fail;refine dh.out.mono ?_;rintro e w2 ⟨rfl,hg2⟩;have HG2:=ł (Mv.trans HG.out hg2 (fun _ e=>e.elim));have hb2:=ai HB.out hg2;obtain ⟨m0,m1,m2,m3⟩:=dm hb2;have hlb:=lt_of_block hb2;clear hg2 hb2;generalize dO n s=pb at *;cases pb with
    | false =>
     have HR:=ł (dA.out rfl);go_wp2_with fail;go_ret;exact ⟨aD HR.out.symm,HG2.out⟩
    | true =>
     have HR:=ł (bZ.out rfl);have aA:=ł (HG2.out.alloc (.cells #[.func (.func 57) #[] #[]] 44));have HK:=ł (kL 3 n s (.slice a l.length cap) l [57] [aI] (.slice (some ⟨w2.heap.size,0,none⟩) 1 1) (w2.alloc (.cells #[.func (.func 57) #[] #[]] 44)) (HX.out.later aA.out) (ax.bH (l:=[57]) (fun _=>rfl) (heap_alloc_new w2 _) rfl (by simp)) rfl (by decide) (fun i hi hk hp w' hg=>by
      have hgw:=Mv.trans aA.out hg (fun _ e=>e.elim);have hm:=List.getElem_mem hk;simp only [List.length_cons,List.length_nil] at hi
      skip
      obtain rfl:i=0:=by omega
      exact fG.out _ hm w' hgw))
     simp only [ae.val] at HK;go_wp2_with fail;refine HK.out.mono ?_;rintro e w3 ⟨rfl,hg3⟩;have aG:=ł (Mv.trans aA.out hg3 (fun _ e=>e.elim));clear hg3;go_wp2_with fail;go_ret;exact ⟨aD HR.out.symm,aG.out⟩
  by_cases h6:k=6
  · subst h6;have HG:=ł (show Grow w (w.alloc (.cells #[.int .u8 6,.int .i64 n,.string s,.slice a l.length cap] 24)) from (Mv.refl _ _).alloc _);have HB:=ł (heap_alloc_new w (.cells #[.int .u8 6,.int .i64 n,.string s,.slice a l.length cap] 24));have dh:=ł (mX 6 n s a l cap (w.alloc (.cells #[.int .u8 6,.int .i64 n,.string s,.slice a l.length cap] 24)));have dA:=ł (show bY n s=false→aI (.mk 6 n s (ae.ts l))=false from fun h=>by simp [aI,h]);have bZ:=ł (show bY n s=true→aI (.mk 6 n s (ae.ts l))=bL [aI] (ae.ts l) from fun h=>by simp [aI,h,kM,kN,kP,kJ,kQ])
    go_enter Tryz.func57,Tryz.ntmps57
    go_wp2_with fail;refine dh.out.mono ?_;rintro e w2 ⟨rfl,hg2⟩;have HG2:=ł (Mv.trans HG.out hg2 (fun _ e=>e.elim));have hb2:=ai HB.out hg2;obtain ⟨m0,m1,m2,m3⟩:=dm hb2;have hlb:=lt_of_block hb2;clear hg2 hb2;generalize bY n s=pb at *;cases pb with
    | false =>
     have HR:=ł (dA.out rfl);go_wp2_with fail;go_ret;exact ⟨aD HR.out.symm,HG2.out⟩
    | true =>
     have HR:=ł (bZ.out rfl);have aA:=ł (HG2.out.alloc (.cells #[.func (.func 57) #[] #[]] 44));have HK:=ł (kL 6 n s (.slice a l.length cap) l [57] [aI] (.slice (some ⟨w2.heap.size,0,none⟩) 1 1) (w2.alloc (.cells #[.func (.func 57) #[] #[]] 44)) (HX.out.later aA.out) (ax.bH (l:=[57]) (fun _=>rfl) (heap_alloc_new w2 _) rfl (by simp)) rfl (by decide) (fun i hi hk hp w' hg=>by
      have hgw:=Mv.trans aA.out hg (fun _ e=>e.elim);have hm:=List.getElem_mem hk;simp only [List.length_cons,List.length_nil] at hi
      skip
      obtain rfl:i=0:=by omega
      exact fG.out _ hm w' hgw))
     simp only [ae.val] at HK;go_wp2_with fail;refine HK.out.mono ?_;rintro e w3 ⟨rfl,hg3⟩;have aG:=ł (Mv.trans aA.out hg3 (fun _ e=>e.elim));clear hg3;go_wp2_with fail;go_ret;exact ⟨aD HR.out.symm,aG.out⟩
  by_cases h7:k=7
  · subst h7;have HG:=ł (show Grow w (w.alloc (.cells #[.int .u8 7,.int .i64 n,.string s,.slice a l.length cap] 24)) from (Mv.refl _ _).alloc _);have HB:=ł (heap_alloc_new w (.cells #[.int .u8 7,.int .i64 n,.string s,.slice a l.length cap] 24));have dh:=ł (mX 7 n s a l cap (w.alloc (.cells #[.int .u8 7,.int .i64 n,.string s,.slice a l.length cap] 24)));have dA:=ł (show bY n s=false→aI (.mk 7 n s (ae.ts l))=false from fun h=>by simp [aI,h]);have bZ:=ł (show bY n s=true→aI (.mk 7 n s (ae.ts l))=bL [aI] (ae.ts l) from fun h=>by simp [aI,h,kM,kN,kP,kJ,kQ])
    go_enter Tryz.func57,Tryz.ntmps57
    go_wp2_with fail;refine dh.out.mono ?_;rintro e w2 ⟨rfl,hg2⟩;have HG2:=ł (Mv.trans HG.out hg2 (fun _ e=>e.elim));have hb2:=ai HB.out hg2;obtain ⟨m0,m1,m2,m3⟩:=dm hb2;have hlb:=lt_of_block hb2;clear hg2 hb2;generalize bY n s=pb at *;cases pb with
    | false =>
     have HR:=ł (dA.out rfl);go_wp2_with fail;go_ret;exact ⟨aD HR.out.symm,HG2.out⟩
    | true =>
     have HR:=ł (bZ.out rfl);have aA:=ł (HG2.out.alloc (.cells #[.func (.func 57) #[] #[]] 44));have HK:=ł (kL 7 n s (.slice a l.length cap) l [57] [aI] (.slice (some ⟨w2.heap.size,0,none⟩) 1 1) (w2.alloc (.cells #[.func (.func 57) #[] #[]] 44)) (HX.out.later aA.out) (ax.bH (l:=[57]) (fun _=>rfl) (heap_alloc_new w2 _) rfl (by simp)) rfl (by decide) (fun i hi hk hp w' hg=>by
      have hgw:=Mv.trans aA.out hg (fun _ e=>e.elim);have hm:=List.getElem_mem hk;simp only [List.length_cons,List.length_nil] at hi
      skip
      obtain rfl:i=0:=by omega
      exact fG.out _ hm w' hgw))
     simp only [ae.val] at HK;go_wp2_with fail;refine HK.out.mono ?_;rintro e w3 ⟨rfl,hg3⟩;have aG:=ł (Mv.trans aA.out hg3 (fun _ e=>e.elim));clear hg3;go_wp2_with fail;go_ret;exact ⟨aD HR.out.symm,aG.out⟩
  by_cases hrange:8≤k∧k≤23
  · obtain ⟨h8,h23⟩:=hrange;have hr1:(k == 1)=false:=by simp;omega
    have hr2:(k == 2)=false:=by simp;omega
    have hr4:(k == 4)=false:=by simp;omega
    have yX:(k == 5)=false:=by simp;omega
    have hr3:(k == 3)=false:=by simp;omega
    have _0:(k == 6)=false:=by simp;omega
    have Gb:(k == 7)=false:=by simp;omega
    have HG:=ł (show Grow w (w.alloc (.cells #[.int .u8 k,.int .i64 n,.string s,.slice a l.length cap] 24)) from (Mv.refl _ _).alloc _);have HB:=ł (heap_alloc_new w (.cells #[.int .u8 k,.int .i64 n,.string s,.slice a l.length cap] 24));have dh:=ł (mX k n s a l cap (w.alloc (.cells #[.int .u8 k,.int .i64 n,.string s,.slice a l.length cap] 24)));have dA:=ł (show bY n s=false→aI (.mk k n s (ae.ts l))=false from fun h=>by simp [aI,h,show ¬ k=1 from by omega,show ¬ k=2 from by omega,show ¬ k=4 from by omega,show ¬ k=5 from by omega,show ¬ k=3 from by omega,show ¬ k=6 from by omega,show ¬ k=7 from by omega,h8,h23]);have bZ:=ł (show bY n s=true→aI (.mk k n s (ae.ts l))=bL [aI,aI] (ae.ts l) from fun h=>by simp [aI,h,kM,kN,kP,kJ,kQ,show ¬ k=1 from by omega,show ¬ k=2 from by omega,show ¬ k=4 from by omega,show ¬ k=5 from by omega,show ¬ k=3 from by omega,show ¬ k=6 from by omega,show ¬ k=7 from by omega,h8,h23])
    go_enter Tryz.func57,Tryz.ntmps57
    go_wp2_with fail;refine dh.out.mono ?_;rintro e w2 ⟨rfl,hg2⟩;have HG2:=ł (Mv.trans HG.out hg2 (fun _ e=>e.elim));have hb2:=ai HB.out hg2;obtain ⟨m0,m1,m2,m3⟩:=dm hb2;have hlb:=lt_of_block hb2;clear hg2 hb2;generalize bY n s=pb at *;cases pb with
    | false =>
     have HR:=ł (dA.out rfl);go_wp2_with fail;go_ret;exact ⟨aD HR.out.symm,HG2.out⟩
    | true =>
     have HR:=ł (bZ.out rfl);have aA:=ł (HG2.out.alloc (.cells #[.func (.func 57) #[] #[],.func (.func 57) #[] #[]] 44));have HK:=ł (kL k n s (.slice a l.length cap) l [57,57] [aI,aI] (.slice (some ⟨w2.heap.size,0,none⟩) 2 2) (w2.alloc (.cells #[.func (.func 57) #[] #[],.func (.func 57) #[] #[]] 44)) (HX.out.later aA.out) (ax.bH (l:=[57,57]) (fun _=>rfl) (heap_alloc_new w2 _) rfl (by simp)) rfl (by decide) (fun i hi hk hp w' hg=>by
      have hgw:=Mv.trans aA.out hg (fun _ e=>e.elim);have hm:=List.getElem_mem hk;simp only [List.length_cons,List.length_nil] at hi;rcases Nat.lt_or_ge i 1 with h0 | h0
      · obtain rfl:i=0:=by omega
        exact fG.out _ hm w' hgw
      skip
      obtain rfl:i=1:=by omega
      exact fG.out _ hm w' hgw))
     simp only [ae.val] at HK;go_wp2_with fail;refine HK.out.mono ?_;rintro e w3 ⟨rfl,hg3⟩;have aG:=ł (Mv.trans aA.out hg3 (fun _ e=>e.elim));clear hg3;go_wp2_with fail;go_ret;exact ⟨aD HR.out.symm,aG.out⟩
  · 
    have hr1:(k == 1)=false:=by simp;omega
    have hr2:(k == 2)=false:=by simp;omega
    have hr4:(k == 4)=false:=by simp;omega
    have yX:(k == 5)=false:=by simp;omega
    have hr3:(k == 3)=false:=by simp;omega
    have _0:(k == 6)=false:=by simp;omega
    have Gb:(k == 7)=false:=by simp;omega
    have HG:=ł (show Grow w (w.alloc (.cells #[.int .u8 k,.int .i64 n,.string s,.slice a l.length cap] 24)) from (Mv.refl _ _).alloc _);have HR:=ł (show aI (.mk k n s (ae.ts l))=false from by simp [aI,show ¬ k=1 from by omega,show ¬ k=2 from by omega,show ¬ k=4 from by omega,show ¬ k=5 from by omega,show ¬ k=3 from by omega,show ¬ k=6 from by omega,show ¬ k=7 from by omega,hrange]);rcases Nat.lt_or_ge k.toNat 8 with hq | hq
    · have hq1:k<8:=by omega
      go_enter Tryz.func57,Tryz.ntmps57
      go_wp2_with fail;go_ret;exact ⟨aD HR.out.symm,HG.out⟩
    · have hq1:8≤k:=by omega
      have hq2:23<k:=by omega
      go_enter Tryz.func57,Tryz.ntmps57
      go_wp2_with fail;go_ret;exact ⟨aD HR.out.symm,HG.out⟩
theorem oM (x:ae) (w:World) (h:aV w x):Calls Tryz.prog 57 #[x.val] w (jN w (aI x.t)):=Vv _ x (Nat.le_refl _) w h
theorem qx (x:ae) (w:World) (hx:aV w x):Calls Tryz.prog 56 #[x.val] w (jN w (dB x.t)):=by
 obtain ⟨k,n,s,kv,l⟩:=x;obtain ⟨a,cap,rfl,hcap,hlen⟩:=hx.form;obtain ⟨hk1,hk2⟩:=hx.row.1;have HG:=ł (show Grow w (w.alloc (.cells #[.int .u8 k,.int .i64 n,.string s,.slice a l.length cap] 24)) from (Mv.refl _ _).alloc _);have HE:=ł (oM (.mk k n s (.slice a l.length cap) l) (w.alloc (.cells #[.int .u8 k,.int .i64 n,.string s,.slice a l.length cap] 24)) (hx.later HG.out));simp only [ae.val,ae.t] at HE ⊢;clear hx;by_cases hk:k=2∨k=3
 · have HR:=ł (show dB (.mk k n s (ae.ts l))=aI (.mk k n s (ae.ts l)) from by rcases hk with rfl | rfl <;> simp [dB,Tree.kind]);generalize aI (.mk k n s (ae.ts l))=bv at *;rcases hk with rfl | rfl
   all_goals
    go_enter Tryz.func56,Tryz.ntmps56
    go_wp2_with fail;refine HE.out.mono ?_;rintro e w2 ⟨rfl,hg2⟩;have HG2:=ł (Mv.trans HG.out hg2 (fun _ e=>e.elim));clear hg2;go_wp2_with fail;go_ret;exact ⟨aD HR.out.symm,HG2.out⟩
 · have hr2:(k == 2)=false:=(by simp <;> omega);have hr3:(k == 3)=false:=(by simp <;> omega);have HR:=ł (show dB (.mk k n s (ae.ts l))=false from by simp [dB,Tree.kind,show ¬ k=2 from by omega,show ¬ k=3 from by omega])
   go_enter Tryz.func56,Tryz.ntmps56
   go_wp2_with fail;go_ret;exact ⟨aD HR.out.symm,HG.out⟩
theorem Nl (x:ae) (w:World) (hx:aV w x):Calls Tryz.prog 59 #[x.val] w (jN w (qG x.t)):=by
 obtain ⟨k,n,s,kv,l⟩:=x;obtain ⟨a,cap,rfl,hcap,hlen⟩:=hx.form;obtain ⟨hk1,hk2⟩:=hx.row.1;have HG:=ł (show Grow w (w.alloc (.cells #[.int .u8 k,.int .i64 n,.string s,.slice a l.length cap] 24)) from (Mv.refl _ _).alloc _);have HE:=ł (oM (.mk k n s (.slice a l.length cap) l) (w.alloc (.cells #[.int .u8 k,.int .i64 n,.string s,.slice a l.length cap] 24)) (hx.later HG.out));simp only [ae.val,ae.t] at HE ⊢;clear hx;by_cases hk:k=2
 · have HR:=ł (show qG (.mk k n s (ae.ts l))=aI (.mk k n s (ae.ts l)) from by rcases hk with rfl <;> simp [qG,Tree.kind]);generalize aI (.mk k n s (ae.ts l))=bv at *;rcases hk with rfl
   all_goals
    go_enter Tryz.func59,Tryz.ntmps59
    go_wp2_with fail;refine HE.out.mono ?_;rintro e w2 ⟨rfl,hg2⟩;have HG2:=ł (Mv.trans HG.out hg2 (fun _ e=>e.elim));clear hg2;go_wp2_with fail;go_ret;exact ⟨aD HR.out.symm,HG2.out⟩
 · have hr2:(k == 2)=false:=(by simp <;> omega);have HR:=ł (show qG (.mk k n s (ae.ts l))=false from by simp [qG,Tree.kind,show ¬ k=2 from by omega])
   go_enter Tryz.func59,Tryz.ntmps59
   go_wp2_with fail;go_ret;exact ⟨aD HR.out.symm,HG.out⟩
def II (m:Nat):Prop:=∀ (x:ae),SizeOf.sizeOf x≤m→∀ w:World,aV w x→Calls Tryz.prog 32 #[x.val] w (jN w (bg x.t))
def Ih (m:Nat):Prop:=∀ (x:ae),SizeOf.sizeOf x≤m→∀ w:World,aV w x→Calls Tryz.prog 20 #[x.val] w (jN w (dw x.t))
theorem UI (m:Nat) (ih:II m):Ih (m+1):=by
 intro x hm w hx;obtain ⟨k,n,s,kv,l⟩:=x;obtain ⟨a,cap,rfl,hcap,hlen⟩:=hx.form;obtain ⟨hk1,hk2⟩:=hx.row.1;have HIS:=ł (fun (y:ae) (hy:y∈l) (w':World) (hg:Grow w w')=>ih y (by have:=nV (k:=k) (n:=n) (s:=s) (kv := .slice a l.length cap) hy;omega) w' ((hx.row.2.2.2.2 y hy).later hg));have HX:=ł hx;clear ih hm hx;simp only [ae.val,ae.t];by_cases h57:k=57
 · subst h57;have HG:=ł (show Grow w (w.alloc (.cells #[.int .u8 57,.int .i64 n,.string s,.slice a l.length cap] 24)) from (Mv.refl _ _).alloc _);have HB:=ł (heap_alloc_new w (.cells #[.int .u8 57,.int .i64 n,.string s,.slice a l.length cap] 24));have dh:=ł (mX 57 n s a l cap (w.alloc (.cells #[.int .u8 57,.int .i64 n,.string s,.slice a l.length cap] 24)));have dA:=ł (show bY n s=false→dw (.mk 57 n s (ae.ts l))=false from fun h=>by simp [dw,h]);have bZ:=ł (show bY n s=true→dw (.mk 57 n s (ae.ts l))=(ae.ts l).all bg from fun h=>by simp [dw,h,Ec])
   go_enter Tryz.func20,Tryz.ntmps20
   go_wp2_with fail;refine dh.out.mono ?_;rintro e w2 ⟨rfl,hg2⟩;have HG2:=ł (Mv.trans HG.out hg2 (fun _ e=>e.elim));have hb2:=ai HB.out hg2;obtain ⟨m0,m1,m2,m3⟩:=dm hb2;have hlb:=lt_of_block hb2;clear hg2 hb2;generalize bY n s=pb at *
   cases pb with
   | false =>
    have HR:=ł (dA.out rfl);go_wp2_with fail;go_ret;exact ⟨aD HR.out.symm,HG2.out⟩
   | true =>
    have HR:=ł (bZ.out rfl);have HE:=ł (Ig (.slice a l.length cap) l 32 bg w2 (HX.out.row.2.2.2.1.later HG2.out) (fun x hx=>(HX.out.row.2.2.2.2 x hx).later HG2.out) (.inl rfl) (fun x hx w' hg=>HIS.out x hx w' (Mv.trans HG2.out hg (fun _ e=>e.elim))));go_wp2_with fail;refine HE.out.mono ?_;rintro e w3 ⟨rfl,hg3⟩;have aG:=ł (Mv.trans HG2.out hg3 (fun _ e=>e.elim));clear hg3;go_wp2_with fail;go_ret;exact ⟨aD HR.out.symm,aG.out⟩
 · have ab4:(k == 57)=false:=by simpa using h57
   have HG:=ł (show Grow w (w.alloc (.cells #[.int .u8 k,.int .i64 n,.string s,.slice a l.length cap] 24)) from (Mv.refl _ _).alloc _);have HR:=ł (show dw (.mk k n s (ae.ts l))=false from by simp [dw,h57])
   go_enter Tryz.func20,Tryz.ntmps20
   go_wp2_with fail;go_ret;exact ⟨aD HR.out.symm,HG.out⟩
theorem U1 (m:Nat) (ih:Ih m):II (m+1):=by
 intro x hm w hx;obtain ⟨k,n,s,kv,l⟩:=x;obtain ⟨a,cap,rfl,hcap,hlen⟩:=hx.form;obtain ⟨hk1,hk2⟩:=hx.row.1;have hs:=hx.row.2.2.1;have HX:=ł hx;have eU:=ł (fun (y:ae) (hy:y∈l) (w':World) (hg:Grow w w')=>ih y (by have:=nV (k:=k) (n:=n) (s:=s) (kv := .slice a l.length cap) hy;omega) w' ((hx.row.2.2.2.2 y hy).later hg));clear ih hm hx;simp only [ae.val,ae.t];by_cases rq:k=40
 · subst rq;have HG:=ł (show Grow w (w.alloc (.cells #[.int .u8 40,.int .i64 n,.string s,.slice a l.length cap] 24)) from (Mv.refl _ _).alloc _);have HB:=ł (heap_alloc_new w (.cells #[.int .u8 40,.int .i64 n,.string s,.slice a l.length cap] 24));have dh:=ł (mX 40 n s a l cap (w.alloc (.cells #[.int .u8 40,.int .i64 n,.string s,.slice a l.length cap] 24)));have dA:=ł (show bY n s=false→bg (.mk 40 n s (ae.ts l))=false from fun h=>by simp [bg,h]);have bZ:=ł (show bY n s=true→bg (.mk 40 n s (ae.ts l))=bL [dB,aI] (ae.ts l) from fun h=>by simp [bg,h,kM,kN,kP,kJ,kQ])
   go_enter Tryz.func32,Tryz.ntmps32
   go_wp2_with fail;refine dh.out.mono ?_;rintro e w2 ⟨rfl,hg2⟩;have HG2:=ł (Mv.trans HG.out hg2 (fun _ e=>e.elim));have hb2:=ai HB.out hg2;obtain ⟨m0,m1,m2,m3⟩:=dm hb2;have hlb:=lt_of_block hb2;clear hg2 hb2;generalize bY n s=pb at *;cases pb with
   | false =>
    have HR:=ł (dA.out rfl);go_wp2_with fail;go_ret;exact ⟨aD HR.out.symm,HG2.out⟩
   | true =>
    have HR:=ł (bZ.out rfl);have aA:=ł (HG2.out.alloc (.cells #[.func (.func 56) #[] #[],.func (.func 57) #[] #[]] 44));have HK:=ł (kL 40 n s (.slice a l.length cap) l [56,57] [dB,aI] (.slice (some ⟨w2.heap.size,0,none⟩) 2 2) (w2.alloc (.cells #[.func (.func 56) #[] #[],.func (.func 57) #[] #[]] 44)) (HX.out.later aA.out) (ax.bH (l:=[56,57]) (fun _=>rfl) (heap_alloc_new w2 _) rfl (by simp)) rfl (by decide) (fun i hi hk hp w' hg=>by
     have hgw:=Mv.trans aA.out hg (fun _ e=>e.elim);have hm:=List.getElem_mem hk;simp only [List.length_cons,List.length_nil] at hi;rcases Nat.lt_or_ge i 1 with h0 | h0
     · obtain rfl:i=0:=by omega
       exact qx _ w' ((HX.out.row.2.2.2.2 _ hm).later hgw)
     skip
     obtain rfl:i=1:=by omega
     exact oM _ w' ((HX.out.row.2.2.2.2 _ hm).later hgw)))
    simp only [ae.val] at HK;go_wp2_with fail;refine HK.out.mono ?_;rintro e w3 ⟨rfl,hg3⟩;have aG:=ł (Mv.trans aA.out hg3 (fun _ e=>e.elim));clear hg3;go_wp2_with fail;go_ret;exact ⟨aD HR.out.symm,aG.out⟩
 by_cases ru:k=41
 · subst ru;have HG:=ł (show Grow w (w.alloc (.cells #[.int .u8 41,.int .i64 n,.string s,.slice a l.length cap] 24)) from (Mv.refl _ _).alloc _);have HB:=ł (heap_alloc_new w (.cells #[.int .u8 41,.int .i64 n,.string s,.slice a l.length cap] 24));have dh:=ł (mX 41 n s a l cap (w.alloc (.cells #[.int .u8 41,.int .i64 n,.string s,.slice a l.length cap] 24)));have dA:=ł (show bY n s=false→bg (.mk 41 n s (ae.ts l))=false from fun h=>by simp [bg,h]);have bZ:=ł (show bY n s=true→bg (.mk 41 n s (ae.ts l))=bL [dB,aI] (ae.ts l) from fun h=>by simp [bg,h,kM,kN,kP,kJ,kQ])
   go_enter Tryz.func32,Tryz.ntmps32
   go_wp2_with fail;refine dh.out.mono ?_;rintro e w2 ⟨rfl,hg2⟩;have HG2:=ł (Mv.trans HG.out hg2 (fun _ e=>e.elim));have hb2:=ai HB.out hg2;obtain ⟨m0,m1,m2,m3⟩:=dm hb2;have hlb:=lt_of_block hb2;clear hg2 hb2;generalize bY n s=pb at *;cases pb with
   | false =>
    have HR:=ł (dA.out rfl);go_wp2_with fail;go_ret;exact ⟨aD HR.out.symm,HG2.out⟩
   | true =>
    have HR:=ł (bZ.out rfl);have aA:=ł (HG2.out.alloc (.cells #[.func (.func 56) #[] #[],.func (.func 57) #[] #[]] 44));have HK:=ł (kL 41 n s (.slice a l.length cap) l [56,57] [dB,aI] (.slice (some ⟨w2.heap.size,0,none⟩) 2 2) (w2.alloc (.cells #[.func (.func 56) #[] #[],.func (.func 57) #[] #[]] 44)) (HX.out.later aA.out) (ax.bH (l:=[56,57]) (fun _=>rfl) (heap_alloc_new w2 _) rfl (by simp)) rfl (by decide) (fun i hi hk hp w' hg=>by
     have hgw:=Mv.trans aA.out hg (fun _ e=>e.elim);have hm:=List.getElem_mem hk;simp only [List.length_cons,List.length_nil] at hi;rcases Nat.lt_or_ge i 1 with h0 | h0
     · obtain rfl:i=0:=by omega
       exact qx _ w' ((HX.out.row.2.2.2.2 _ hm).later hgw)
     skip
     obtain rfl:i=1:=by omega
     exact oM _ w' ((HX.out.row.2.2.2.2 _ hm).later hgw)))
    simp only [ae.val] at HK;go_wp2_with fail;refine HK.out.mono ?_;rintro e w3 ⟨rfl,hg3⟩;have aG:=ł (Mv.trans aA.out hg3 (fun _ e=>e.elim));clear hg3;go_wp2_with fail;go_ret;exact ⟨aD HR.out.symm,aG.out⟩
 by_cases ry:k=42
 · subst ry;have HG:=ł (show Grow w (w.alloc (.cells #[.int .u8 42,.int .i64 n,.string s,.slice a l.length cap] 24)) from (Mv.refl _ _).alloc _);have HB:=ł (heap_alloc_new w (.cells #[.int .u8 42,.int .i64 n,.string s,.slice a l.length cap] 24));have dh:=ł (mX 42 n s a l cap (w.alloc (.cells #[.int .u8 42,.int .i64 n,.string s,.slice a l.length cap] 24)));have dA:=ł (show bY n s=false→bg (.mk 42 n s (ae.ts l))=false from fun h=>by simp [bg,h]);have bZ:=ł (show bY n s=true→bg (.mk 42 n s (ae.ts l))=bL [dB,aI] (ae.ts l) from fun h=>by simp [bg,h,kM,kN,kP,kJ,kQ])
   go_enter Tryz.func32,Tryz.ntmps32
   go_wp2_with fail;refine dh.out.mono ?_;rintro e w2 ⟨rfl,hg2⟩;have HG2:=ł (Mv.trans HG.out hg2 (fun _ e=>e.elim));have hb2:=ai HB.out hg2;obtain ⟨m0,m1,m2,m3⟩:=dm hb2;have hlb:=lt_of_block hb2;clear hg2 hb2;generalize bY n s=pb at *;cases pb with
   | false =>
    have HR:=ł (dA.out rfl);go_wp2_with fail;go_ret;exact ⟨aD HR.out.symm,HG2.out⟩
   | true =>
    have HR:=ł (bZ.out rfl);have aA:=ł (HG2.out.alloc (.cells #[.func (.func 56) #[] #[],.func (.func 57) #[] #[]] 44));have HK:=ł (kL 42 n s (.slice a l.length cap) l [56,57] [dB,aI] (.slice (some ⟨w2.heap.size,0,none⟩) 2 2) (w2.alloc (.cells #[.func (.func 56) #[] #[],.func (.func 57) #[] #[]] 44)) (HX.out.later aA.out) (ax.bH (l:=[56,57]) (fun _=>rfl) (heap_alloc_new w2 _) rfl (by simp)) rfl (by decide) (fun i hi hk hp w' hg=>by
     have hgw:=Mv.trans aA.out hg (fun _ e=>e.elim);have hm:=List.getElem_mem hk;simp only [List.length_cons,List.length_nil] at hi;rcases Nat.lt_or_ge i 1 with h0 | h0
     · obtain rfl:i=0:=by omega
       exact qx _ w' ((HX.out.row.2.2.2.2 _ hm).later hgw)
     skip
     obtain rfl:i=1:=by omega
     exact oM _ w' ((HX.out.row.2.2.2.2 _ hm).later hgw)))
    simp only [ae.val] at HK;go_wp2_with fail;refine HK.out.mono ?_;rintro e w3 ⟨rfl,hg3⟩;have aG:=ł (Mv.trans aA.out hg3 (fun _ e=>e.elim));clear hg3;go_wp2_with fail;go_ret;exact ⟨aD HR.out.symm,aG.out⟩
 by_cases uD:k=56
 · subst uD;have HG:=ł (show Grow w (w.alloc (.cells #[.int .u8 56,.int .i64 n,.string s,.slice a l.length cap] 24)) from (Mv.refl _ _).alloc _);have HB:=ł (heap_alloc_new w (.cells #[.int .u8 56,.int .i64 n,.string s,.slice a l.length cap] 24));have dh:=ł (mX 56 n s a l cap (w.alloc (.cells #[.int .u8 56,.int .i64 n,.string s,.slice a l.length cap] 24)));have dA:=ł (show bY n s=false→bg (.mk 56 n s (ae.ts l))=false from fun h=>by simp [bg,h]);have bZ:=ł (show bY n s=true→bg (.mk 56 n s (ae.ts l))=bL [dB,aI] (ae.ts l) from fun h=>by simp [bg,h,kM,kN,kP,kJ,kQ])
   go_enter Tryz.func32,Tryz.ntmps32
   go_wp2_with fail;refine dh.out.mono ?_;rintro e w2 ⟨rfl,hg2⟩;have HG2:=ł (Mv.trans HG.out hg2 (fun _ e=>e.elim));have hb2:=ai HB.out hg2;obtain ⟨m0,m1,m2,m3⟩:=dm hb2;have hlb:=lt_of_block hb2;clear hg2 hb2;generalize bY n s=pb at *;cases pb with
   | false =>
    have HR:=ł (dA.out rfl);go_wp2_with fail;go_ret;exact ⟨aD HR.out.symm,HG2.out⟩
   | true =>
    have HR:=ł (bZ.out rfl);have aA:=ł (HG2.out.alloc (.cells #[.func (.func 56) #[] #[],.func (.func 57) #[] #[]] 44));have HK:=ł (kL 56 n s (.slice a l.length cap) l [56,57] [dB,aI] (.slice (some ⟨w2.heap.size,0,none⟩) 2 2) (w2.alloc (.cells #[.func (.func 56) #[] #[],.func (.func 57) #[] #[]] 44)) (HX.out.later aA.out) (ax.bH (l:=[56,57]) (fun _=>rfl) (heap_alloc_new w2 _) rfl (by simp)) rfl (by decide) (fun i hi hk hp w' hg=>by
     have hgw:=Mv.trans aA.out hg (fun _ e=>e.elim);have hm:=List.getElem_mem hk;simp only [List.length_cons,List.length_nil] at hi;rcases Nat.lt_or_ge i 1 with h0 | h0
     · obtain rfl:i=0:=by omega
       exact qx _ w' ((HX.out.row.2.2.2.2 _ hm).later hgw)
     skip
     obtain rfl:i=1:=by omega
     exact oM _ w' ((HX.out.row.2.2.2.2 _ hm).later hgw)))
    simp only [ae.val] at HK;go_wp2_with fail;refine HK.out.mono ?_;rintro e w3 ⟨rfl,hg3⟩;have aG:=ł (Mv.trans aA.out hg3 (fun _ e=>e.elim));clear hg3;go_wp2_with fail;go_ret;exact ⟨aD HR.out.symm,aG.out⟩
 by_cases h43:k=43
 · subst h43;have HG:=ł (show Grow w (w.alloc (.cells #[.int .u8 43,.int .i64 n,.string s,.slice a l.length cap] 24)) from (Mv.refl _ _).alloc _);have HB:=ł (heap_alloc_new w (.cells #[.int .u8 43,.int .i64 n,.string s,.slice a l.length cap] 24));have dh:=ł (mX 43 n s a l cap (w.alloc (.cells #[.int .u8 43,.int .i64 n,.string s,.slice a l.length cap] 24)));have dA:=ł (show bY n s=false→bg (.mk 43 n s (ae.ts l))=false from fun h=>by simp [bg,h]);have bZ:=ł (show bY n s=true→bg (.mk 43 n s (ae.ts l))=bL [dB,dB] (ae.ts l) from fun h=>by simp [bg,h,kM,kN,kP,kJ,kQ])
   go_enter Tryz.func32,Tryz.ntmps32
   go_wp2_with fail;refine dh.out.mono ?_;rintro e w2 ⟨rfl,hg2⟩;have HG2:=ł (Mv.trans HG.out hg2 (fun _ e=>e.elim));have hb2:=ai HB.out hg2;obtain ⟨m0,m1,m2,m3⟩:=dm hb2;have hlb:=lt_of_block hb2;clear hg2 hb2;generalize bY n s=pb at *;cases pb with
   | false =>
    have HR:=ł (dA.out rfl);go_wp2_with fail;go_ret;exact ⟨aD HR.out.symm,HG2.out⟩
   | true =>
    have HR:=ł (bZ.out rfl);have aA:=ł (HG2.out.alloc (.cells #[.func (.func 56) #[] #[],.func (.func 56) #[] #[]] 44));have HK:=ł (kL 43 n s (.slice a l.length cap) l [56,56] [dB,dB] (.slice (some ⟨w2.heap.size,0,none⟩) 2 2) (w2.alloc (.cells #[.func (.func 56) #[] #[],.func (.func 56) #[] #[]] 44)) (HX.out.later aA.out) (ax.bH (l:=[56,56]) (fun _=>rfl) (heap_alloc_new w2 _) rfl (by simp)) rfl (by decide) (fun i hi hk hp w' hg=>by
     have hgw:=Mv.trans aA.out hg (fun _ e=>e.elim);have hm:=List.getElem_mem hk;simp only [List.length_cons,List.length_nil] at hi;rcases Nat.lt_or_ge i 1 with h0 | h0
     · obtain rfl:i=0:=by omega
       exact qx _ w' ((HX.out.row.2.2.2.2 _ hm).later hgw)
     skip
     obtain rfl:i=1:=by omega
     exact qx _ w' ((HX.out.row.2.2.2.2 _ hm).later hgw)))
    simp only [ae.val] at HK;go_wp2_with fail;refine HK.out.mono ?_;rintro e w3 ⟨rfl,hg3⟩;have aG:=ł (Mv.trans aA.out hg3 (fun _ e=>e.elim));clear hg3;go_wp2_with fail;go_ret;exact ⟨aD HR.out.symm,aG.out⟩
 by_cases lY:k=44
 · subst lY;have HG:=ł (show Grow w (w.alloc (.cells #[.int .u8 44,.int .i64 n,.string s,.slice a l.length cap] 24)) from (Mv.refl _ _).alloc _);have HB:=ł (heap_alloc_new w (.cells #[.int .u8 44,.int .i64 n,.string s,.slice a l.length cap] 24));have dh:=ł (tO 44 n s a l cap (w.alloc (.cells #[.int .u8 44,.int .i64 n,.string s,.slice a l.length cap] 24)) hs);have dA:=ł (show dO n s=false→bg (.mk 44 n s (ae.ts l))=false from fun h=>by simp [bg,h]);have bZ:=ł (show dO n s=true→bg (.mk 44 n s (ae.ts l))=bL [dB] (ae.ts l) from fun h=>by simp [bg,h,kM,kN,kP,kJ,kQ])
   go_enter Tryz.func32,Tryz.ntmps32
   go_wp2_with fail;refine dh.out.mono ?_;rintro e w2 ⟨rfl,hg2⟩;have HG2:=ł (Mv.trans HG.out hg2 (fun _ e=>e.elim));have hb2:=ai HB.out hg2;obtain ⟨m0,m1,m2,m3⟩:=dm hb2;have hlb:=lt_of_block hb2;clear hg2 hb2;generalize dO n s=pb at *;cases pb with
   | false =>
    have HR:=ł (dA.out rfl);go_wp2_with fail;go_ret;exact ⟨aD HR.out.symm,HG2.out⟩
   | true =>
    have HR:=ł (bZ.out rfl);have aA:=ł (HG2.out.alloc (.cells #[.func (.func 56) #[] #[]] 44));have HK:=ł (kL 44 n s (.slice a l.length cap) l [56] [dB] (.slice (some ⟨w2.heap.size,0,none⟩) 1 1) (w2.alloc (.cells #[.func (.func 56) #[] #[]] 44)) (HX.out.later aA.out) (ax.bH (l:=[56]) (fun _=>rfl) (heap_alloc_new w2 _) rfl (by simp)) rfl (by decide) (fun i hi hk hp w' hg=>by
     have hgw:=Mv.trans aA.out hg (fun _ e=>e.elim);have hm:=List.getElem_mem hk;simp only [List.length_cons,List.length_nil] at hi
     skip
     obtain rfl:i=0:=by omega
     exact qx _ w' ((HX.out.row.2.2.2.2 _ hm).later hgw)))
    simp only [ae.val] at HK;go_wp2_with fail;refine HK.out.mono ?_;rintro e w3 ⟨rfl,hg3⟩;have aG:=ł (Mv.trans aA.out hg3 (fun _ e=>e.elim));clear hg3;go_wp2_with fail;go_ret;exact ⟨aD HR.out.symm,aG.out⟩
 by_cases h45:k=45
 · subst h45;have HG:=ł (show Grow w (w.alloc (.cells #[.int .u8 45,.int .i64 n,.string s,.slice a l.length cap] 24)) from (Mv.refl _ _).alloc _);have HB:=ł (heap_alloc_new w (.cells #[.int .u8 45,.int .i64 n,.string s,.slice a l.length cap] 24));have dh:=ł (tO 45 n s a l cap (w.alloc (.cells #[.int .u8 45,.int .i64 n,.string s,.slice a l.length cap] 24)) hs);have dA:=ł (show dO n s=false→bg (.mk 45 n s (ae.ts l))=false from fun h=>by simp [bg,h]);have bZ:=ł (show dO n s=true→bg (.mk 45 n s (ae.ts l))=bL [dB] (ae.ts l) from fun h=>by simp [bg,h,kM,kN,kP,kJ,kQ])
   go_enter Tryz.func32,Tryz.ntmps32
   go_wp2_with fail;refine dh.out.mono ?_;rintro e w2 ⟨rfl,hg2⟩;have HG2:=ł (Mv.trans HG.out hg2 (fun _ e=>e.elim));have hb2:=ai HB.out hg2;obtain ⟨m0,m1,m2,m3⟩:=dm hb2;have hlb:=lt_of_block hb2;clear hg2 hb2;generalize dO n s=pb at *;cases pb with
   | false =>
    have HR:=ł (dA.out rfl);go_wp2_with fail;go_ret;exact ⟨aD HR.out.symm,HG2.out⟩
   | true =>
    have HR:=ł (bZ.out rfl);have aA:=ł (HG2.out.alloc (.cells #[.func (.func 56) #[] #[]] 44));have HK:=ł (kL 45 n s (.slice a l.length cap) l [56] [dB] (.slice (some ⟨w2.heap.size,0,none⟩) 1 1) (w2.alloc (.cells #[.func (.func 56) #[] #[]] 44)) (HX.out.later aA.out) (ax.bH (l:=[56]) (fun _=>rfl) (heap_alloc_new w2 _) rfl (by simp)) rfl (by decide) (fun i hi hk hp w' hg=>by
     have hgw:=Mv.trans aA.out hg (fun _ e=>e.elim);have hm:=List.getElem_mem hk;simp only [List.length_cons,List.length_nil] at hi
     skip
     obtain rfl:i=0:=by omega
     exact qx _ w' ((HX.out.row.2.2.2.2 _ hm).later hgw)))
    simp only [ae.val] at HK;go_wp2_with fail;refine HK.out.mono ?_;rintro e w3 ⟨rfl,hg3⟩;have aG:=ł (Mv.trans aA.out hg3 (fun _ e=>e.elim));clear hg3;go_wp2_with fail;go_ret;exact ⟨aD HR.out.symm,aG.out⟩
 by_cases h46:k=46
 · subst h46;have HG:=ł (show Grow w (w.alloc (.cells #[.int .u8 46,.int .i64 n,.string s,.slice a l.length cap] 24)) from (Mv.refl _ _).alloc _);have HB:=ł (heap_alloc_new w (.cells #[.int .u8 46,.int .i64 n,.string s,.slice a l.length cap] 24));have dh:=ł (mX 46 n s a l cap (w.alloc (.cells #[.int .u8 46,.int .i64 n,.string s,.slice a l.length cap] 24)));have dA:=ł (show bY n s=false→bg (.mk 46 n s (ae.ts l))=false from fun h=>by simp [bg,h]);have bZ:=ł (show bY n s=true→bg (.mk 46 n s (ae.ts l))=bL [dB] (ae.ts l) from fun h=>by simp [bg,h,kM,kN,kP,kJ,kQ])
   go_enter Tryz.func32,Tryz.ntmps32
   go_wp2_with fail;refine dh.out.mono ?_;rintro e w2 ⟨rfl,hg2⟩;have HG2:=ł (Mv.trans HG.out hg2 (fun _ e=>e.elim));have hb2:=ai HB.out hg2;obtain ⟨m0,m1,m2,m3⟩:=dm hb2;have hlb:=lt_of_block hb2;clear hg2 hb2;generalize bY n s=pb at *;cases pb with
   | false =>
    have HR:=ł (dA.out rfl);go_wp2_with fail;go_ret;exact ⟨aD HR.out.symm,HG2.out⟩
   | true =>
    have HR:=ł (bZ.out rfl);have aA:=ł (HG2.out.alloc (.cells #[.func (.func 56) #[] #[]] 44));have HK:=ł (kL 46 n s (.slice a l.length cap) l [56] [dB] (.slice (some ⟨w2.heap.size,0,none⟩) 1 1) (w2.alloc (.cells #[.func (.func 56) #[] #[]] 44)) (HX.out.later aA.out) (ax.bH (l:=[56]) (fun _=>rfl) (heap_alloc_new w2 _) rfl (by simp)) rfl (by decide) (fun i hi hk hp w' hg=>by
     have hgw:=Mv.trans aA.out hg (fun _ e=>e.elim);have hm:=List.getElem_mem hk;simp only [List.length_cons,List.length_nil] at hi
     skip
     obtain rfl:i=0:=by omega
     exact qx _ w' ((HX.out.row.2.2.2.2 _ hm).later hgw)))
    simp only [ae.val] at HK;go_wp2_with fail;refine HK.out.mono ?_;rintro e w3 ⟨rfl,hg3⟩;have aG:=ł (Mv.trans aA.out hg3 (fun _ e=>e.elim));clear hg3;go_wp2_with fail;go_ret;exact ⟨aD HR.out.symm,aG.out⟩
 by_cases h47:k=47
 · subst h47;have HG:=ł (show Grow w (w.alloc (.cells #[.int .u8 47,.int .i64 n,.string s,.slice a l.length cap] 24)) from (Mv.refl _ _).alloc _);have HB:=ł (heap_alloc_new w (.cells #[.int .u8 47,.int .i64 n,.string s,.slice a l.length cap] 24));have dh:=ł (mX 47 n s a l cap (w.alloc (.cells #[.int .u8 47,.int .i64 n,.string s,.slice a l.length cap] 24)));have dA:=ł (show bY n s=false→bg (.mk 47 n s (ae.ts l))=false from fun h=>by simp [bg,h]);have bZ:=ł (show bY n s=true→bg (.mk 47 n s (ae.ts l))=bL [dB] (ae.ts l) from fun h=>by simp [bg,h,kM,kN,kP,kJ,kQ])
   go_enter Tryz.func32,Tryz.ntmps32
   go_wp2_with fail;refine dh.out.mono ?_;rintro e w2 ⟨rfl,hg2⟩;have HG2:=ł (Mv.trans HG.out hg2 (fun _ e=>e.elim));have hb2:=ai HB.out hg2;obtain ⟨m0,m1,m2,m3⟩:=dm hb2;have hlb:=lt_of_block hb2;clear hg2 hb2;generalize bY n s=pb at *;cases pb with
   | false =>
    have HR:=ł (dA.out rfl);go_wp2_with fail;go_ret;exact ⟨aD HR.out.symm,HG2.out⟩
   | true =>
    have HR:=ł (bZ.out rfl);have aA:=ł (HG2.out.alloc (.cells #[.func (.func 56) #[] #[]] 44));have HK:=ł (kL 47 n s (.slice a l.length cap) l [56] [dB] (.slice (some ⟨w2.heap.size,0,none⟩) 1 1) (w2.alloc (.cells #[.func (.func 56) #[] #[]] 44)) (HX.out.later aA.out) (ax.bH (l:=[56]) (fun _=>rfl) (heap_alloc_new w2 _) rfl (by simp)) rfl (by decide) (fun i hi hk hp w' hg=>by
     have hgw:=Mv.trans aA.out hg (fun _ e=>e.elim);have hm:=List.getElem_mem hk;simp only [List.length_cons,List.length_nil] at hi
     skip
     obtain rfl:i=0:=by omega
     exact qx _ w' ((HX.out.row.2.2.2.2 _ hm).later hgw)))
    simp only [ae.val] at HK;go_wp2_with fail;refine HK.out.mono ?_;rintro e w3 ⟨rfl,hg3⟩;have aG:=ł (Mv.trans aA.out hg3 (fun _ e=>e.elim));clear hg3;go_wp2_with fail;go_ret;exact ⟨aD HR.out.symm,aG.out⟩
 by_cases h48:k=48
 · subst h48;have HG:=ł (show Grow w (w.alloc (.cells #[.int .u8 48,.int .i64 n,.string s,.slice a l.length cap] 24)) from (Mv.refl _ _).alloc _);have HB:=ł (heap_alloc_new w (.cells #[.int .u8 48,.int .i64 n,.string s,.slice a l.length cap] 24));have dh:=ł (mX 48 n s a l cap (w.alloc (.cells #[.int .u8 48,.int .i64 n,.string s,.slice a l.length cap] 24)));have dA:=ł (show bY n s=false→bg (.mk 48 n s (ae.ts l))=false from fun h=>by simp [bg,h]);have bZ:=ł (show bY n s=true→bg (.mk 48 n s (ae.ts l))=bL [dB] (ae.ts l) from fun h=>by simp [bg,h,kM,kN,kP,kJ,kQ])
   go_enter Tryz.func32,Tryz.ntmps32
   go_wp2_with fail;refine dh.out.mono ?_;rintro e w2 ⟨rfl,hg2⟩;have HG2:=ł (Mv.trans HG.out hg2 (fun _ e=>e.elim));have hb2:=ai HB.out hg2;obtain ⟨m0,m1,m2,m3⟩:=dm hb2;have hlb:=lt_of_block hb2;clear hg2 hb2;generalize bY n s=pb at *;cases pb with
   | false =>
    have HR:=ł (dA.out rfl);go_wp2_with fail;go_ret;exact ⟨aD HR.out.symm,HG2.out⟩
   | true =>
    have HR:=ł (bZ.out rfl);have aA:=ł (HG2.out.alloc (.cells #[.func (.func 56) #[] #[]] 44));have HK:=ł (kL 48 n s (.slice a l.length cap) l [56] [dB] (.slice (some ⟨w2.heap.size,0,none⟩) 1 1) (w2.alloc (.cells #[.func (.func 56) #[] #[]] 44)) (HX.out.later aA.out) (ax.bH (l:=[56]) (fun _=>rfl) (heap_alloc_new w2 _) rfl (by simp)) rfl (by decide) (fun i hi hk hp w' hg=>by
     have hgw:=Mv.trans aA.out hg (fun _ e=>e.elim);have hm:=List.getElem_mem hk;simp only [List.length_cons,List.length_nil] at hi
     skip
     obtain rfl:i=0:=by omega
     exact qx _ w' ((HX.out.row.2.2.2.2 _ hm).later hgw)))
    simp only [ae.val] at HK;go_wp2_with fail;refine HK.out.mono ?_;rintro e w3 ⟨rfl,hg3⟩;have aG:=ł (Mv.trans aA.out hg3 (fun _ e=>e.elim));clear hg3;go_wp2_with fail;go_ret;exact ⟨aD HR.out.symm,aG.out⟩
 by_cases sJ:k=49
 · subst sJ;have HG:=ł (show Grow w (w.alloc (.cells #[.int .u8 49,.int .i64 n,.string s,.slice a l.length cap] 24)) from (Mv.refl _ _).alloc _);have HB:=ł (heap_alloc_new w (.cells #[.int .u8 49,.int .i64 n,.string s,.slice a l.length cap] 24));have dh:=ł (mX 49 n s a l cap (w.alloc (.cells #[.int .u8 49,.int .i64 n,.string s,.slice a l.length cap] 24)));have dA:=ł (show bY n s=false→bg (.mk 49 n s (ae.ts l))=false from fun h=>by simp [bg,h]);have bZ:=ł (show bY n s=true→bg (.mk 49 n s (ae.ts l))=bL [dB] (ae.ts l) from fun h=>by simp [bg,h,kM,kN,kP,kJ,kQ])
   go_enter Tryz.func32,Tryz.ntmps32
   go_wp2_with fail;refine dh.out.mono ?_;rintro e w2 ⟨rfl,hg2⟩;have HG2:=ł (Mv.trans HG.out hg2 (fun _ e=>e.elim));have hb2:=ai HB.out hg2;obtain ⟨m0,m1,m2,m3⟩:=dm hb2;have hlb:=lt_of_block hb2;clear hg2 hb2;generalize bY n s=pb at *;cases pb with
   | false =>
    have HR:=ł (dA.out rfl);go_wp2_with fail;go_ret;exact ⟨aD HR.out.symm,HG2.out⟩
   | true =>
    have HR:=ł (bZ.out rfl);have aA:=ł (HG2.out.alloc (.cells #[.func (.func 56) #[] #[]] 44));have HK:=ł (kL 49 n s (.slice a l.length cap) l [56] [dB] (.slice (some ⟨w2.heap.size,0,none⟩) 1 1) (w2.alloc (.cells #[.func (.func 56) #[] #[]] 44)) (HX.out.later aA.out) (ax.bH (l:=[56]) (fun _=>rfl) (heap_alloc_new w2 _) rfl (by simp)) rfl (by decide) (fun i hi hk hp w' hg=>by
     have hgw:=Mv.trans aA.out hg (fun _ e=>e.elim);have hm:=List.getElem_mem hk;simp only [List.length_cons,List.length_nil] at hi
     skip
     obtain rfl:i=0:=by omega
     exact qx _ w' ((HX.out.row.2.2.2.2 _ hm).later hgw)))
    simp only [ae.val] at HK;go_wp2_with fail;refine HK.out.mono ?_;rintro e w3 ⟨rfl,hg3⟩;have aG:=ł (Mv.trans aA.out hg3 (fun _ e=>e.elim));clear hg3;go_wp2_with fail;go_ret;exact ⟨aD HR.out.symm,aG.out⟩
 by_cases h50:k=50
 · subst h50;have HG:=ł (show Grow w (w.alloc (.cells #[.int .u8 50,.int .i64 n,.string s,.slice a l.length cap] 24)) from (Mv.refl _ _).alloc _);have HB:=ł (heap_alloc_new w (.cells #[.int .u8 50,.int .i64 n,.string s,.slice a l.length cap] 24));have dh:=ł (tO 50 n s a l cap (w.alloc (.cells #[.int .u8 50,.int .i64 n,.string s,.slice a l.length cap] 24)) hs);have dA:=ł (show dO n s=false→bg (.mk 50 n s (ae.ts l))=false from fun h=>by simp [bg,h]);have bZ:=ł (show dO n s=true→bg (.mk 50 n s (ae.ts l))=(decide (l.length≤8) && (ae.ts l).all qG) from fun h=>by simp [bg,h,ae.cZ])
   go_enter Tryz.func32,Tryz.ntmps32
   go_wp2_with fail;refine dh.out.mono ?_;rintro e w2 ⟨rfl,hg2⟩;have HG2:=ł (Mv.trans HG.out hg2 (fun _ e=>e.elim));have hb2:=ai HB.out hg2;obtain ⟨m0,m1,m2,m3⟩:=dm hb2;have hlb:=lt_of_block hb2;clear hg2 hb2;generalize dO n s=pb at *;cases pb with
   | false =>
    have HR:=ł (dA.out rfl);go_wp2_with fail;go_ret;exact ⟨aD HR.out.symm,HG2.out⟩
   | true =>
    by_cases h8:l.length≤8
    · have HR:=ł (show bg (.mk 50 n s (ae.ts l))=(ae.ts l).all qG from by rw [bZ.out rfl];simp [h8]);have HE:=ł (Ig (.slice a l.length cap) l 59 qG w2 (HX.out.row.2.2.2.1.later HG2.out) (fun x hx=>(HX.out.row.2.2.2.2 x hx).later HG2.out) (.inr rfl) (fun x hx w' hg=>Nl x w' ((HX.out.row.2.2.2.2 x hx).later (Mv.trans HG2.out hg (fun _ e=>e.elim)))));go_wp2_with fail;refine HE.out.mono ?_;rintro e w3 ⟨rfl,hg3⟩;have aG:=ł (Mv.trans HG2.out hg3 (fun _ e=>e.elim));clear hg3;go_wp2_with fail;go_ret;exact ⟨aD HR.out.symm,aG.out⟩
    · have HR:=ł (show bg (.mk 50 n s (ae.ts l))=false from by rw [bZ.out rfl];simp [h8]);go_wp2_with fail;go_ret;exact ⟨aD HR.out.symm,HG2.out⟩
 by_cases kD:k=51
 · subst kD;have HG:=ł (show Grow w (w.alloc (.cells #[.int .u8 51,.int .i64 n,.string s,.slice a l.length cap] 24)) from (Mv.refl _ _).alloc _);have HB:=ł (heap_alloc_new w (.cells #[.int .u8 51,.int .i64 n,.string s,.slice a l.length cap] 24));have dh:=ł (tO 51 n s a l cap (w.alloc (.cells #[.int .u8 51,.int .i64 n,.string s,.slice a l.length cap] 24)) hs);have dA:=ł (show dO n s=false→bg (.mk 51 n s (ae.ts l))=false from fun h=>by simp [bg,h]);have bZ:=ł (show dO n s=true→bg (.mk 51 n s (ae.ts l))=(decide (l.length≤8) && (ae.ts l).all qG) from fun h=>by simp [bg,h,ae.cZ])
   go_enter Tryz.func32,Tryz.ntmps32
   go_wp2_with fail;refine dh.out.mono ?_;rintro e w2 ⟨rfl,hg2⟩;have HG2:=ł (Mv.trans HG.out hg2 (fun _ e=>e.elim));have hb2:=ai HB.out hg2;obtain ⟨m0,m1,m2,m3⟩:=dm hb2;have hlb:=lt_of_block hb2;clear hg2 hb2;generalize dO n s=pb at *;cases pb with
   | false =>
    have HR:=ł (dA.out rfl);go_wp2_with fail;go_ret;exact ⟨aD HR.out.symm,HG2.out⟩
   | true =>
    by_cases h8:l.length≤8
    · have HR:=ł (show bg (.mk 51 n s (ae.ts l))=(ae.ts l).all qG from by rw [bZ.out rfl];simp [h8]);have HE:=ł (Ig (.slice a l.length cap) l 59 qG w2 (HX.out.row.2.2.2.1.later HG2.out) (fun x hx=>(HX.out.row.2.2.2.2 x hx).later HG2.out) (.inr rfl) (fun x hx w' hg=>Nl x w' ((HX.out.row.2.2.2.2 x hx).later (Mv.trans HG2.out hg (fun _ e=>e.elim)))));go_wp2_with fail;refine HE.out.mono ?_;rintro e w3 ⟨rfl,hg3⟩;have aG:=ł (Mv.trans HG2.out hg3 (fun _ e=>e.elim));clear hg3;go_wp2_with fail;go_ret;exact ⟨aD HR.out.symm,aG.out⟩
    · have HR:=ł (show bg (.mk 51 n s (ae.ts l))=false from by rw [bZ.out rfl];simp [h8]);go_wp2_with fail;go_ret;exact ⟨aD HR.out.symm,HG2.out⟩
 by_cases sK:k=52
 · subst sK;have HG:=ł (show Grow w (w.alloc (.cells #[.int .u8 52,.int .i64 n,.string s,.slice a l.length cap] 24)) from (Mv.refl _ _).alloc _);have HB:=ł (heap_alloc_new w (.cells #[.int .u8 52,.int .i64 n,.string s,.slice a l.length cap] 24));have dh:=ł (mX 52 n s a l cap (w.alloc (.cells #[.int .u8 52,.int .i64 n,.string s,.slice a l.length cap] 24)));have dA:=ł (show bY n s=false→bg (.mk 52 n s (ae.ts l))=false from fun h=>by simp [bg,h]);have bZ:=ł (show bY n s=true→bg (.mk 52 n s (ae.ts l))=bL [aI,dw,dw,aI] (ae.ts l) from fun h=>by simp [bg,h,kM,kN,kP,kJ,kQ])
   go_enter Tryz.func32,Tryz.ntmps32
   go_wp2_with fail;refine dh.out.mono ?_;rintro e w2 ⟨rfl,hg2⟩;have HG2:=ł (Mv.trans HG.out hg2 (fun _ e=>e.elim));have hb2:=ai HB.out hg2;obtain ⟨m0,m1,m2,m3⟩:=dm hb2;have hlb:=lt_of_block hb2;clear hg2 hb2;generalize bY n s=pb at *;cases pb with
   | false =>
    have HR:=ł (dA.out rfl);go_wp2_with fail;go_ret;exact ⟨aD HR.out.symm,HG2.out⟩
   | true =>
    have HR:=ł (bZ.out rfl);have aA:=ł (HG2.out.alloc (.cells #[.func (.func 57) #[] #[],.func (.func 20) #[] #[],.func (.func 20) #[] #[],.func (.func 57) #[] #[]] 44));have HK:=ł (kL 52 n s (.slice a l.length cap) l [57,20,20,57] [aI,dw,dw,aI] (.slice (some ⟨w2.heap.size,0,none⟩) 4 4) (w2.alloc (.cells #[.func (.func 57) #[] #[],.func (.func 20) #[] #[],.func (.func 20) #[] #[],.func (.func 57) #[] #[]] 44)) (HX.out.later aA.out) (ax.bH (l:=[57,20,20,57]) (fun _=>rfl) (heap_alloc_new w2 _) rfl (by simp)) rfl (by decide) (fun i hi hk hp w' hg=>by
     have hgw:=Mv.trans aA.out hg (fun _ e=>e.elim);have hm:=List.getElem_mem hk;simp only [List.length_cons,List.length_nil] at hi;rcases Nat.lt_or_ge i 1 with h0 | h0
     · obtain rfl:i=0:=by omega
       exact oM _ w' ((HX.out.row.2.2.2.2 _ hm).later hgw)
     rcases Nat.lt_or_ge i 2 with h1 | h1
     · obtain rfl:i=1:=by omega
       exact eU.out _ hm w' hgw
     rcases Nat.lt_or_ge i 3 with h2 | h2
     · obtain rfl:i=2:=by omega
       exact eU.out _ hm w' hgw
     skip
     obtain rfl:i=3:=by omega
     exact oM _ w' ((HX.out.row.2.2.2.2 _ hm).later hgw)))
    simp only [ae.val] at HK;go_wp2_with fail;refine HK.out.mono ?_;rintro e w3 ⟨rfl,hg3⟩;have aG:=ł (Mv.trans aA.out hg3 (fun _ e=>e.elim));clear hg3;go_wp2_with fail;go_ret;exact ⟨aD HR.out.symm,aG.out⟩
 by_cases sM:k=53
 · subst sM;have HG:=ł (show Grow w (w.alloc (.cells #[.int .u8 53,.int .i64 n,.string s,.slice a l.length cap] 24)) from (Mv.refl _ _).alloc _);have HB:=ł (heap_alloc_new w (.cells #[.int .u8 53,.int .i64 n,.string s,.slice a l.length cap] 24));have dh:=ł (mX 53 n s a l cap (w.alloc (.cells #[.int .u8 53,.int .i64 n,.string s,.slice a l.length cap] 24)));have dA:=ł (show bY n s=false→bg (.mk 53 n s (ae.ts l))=false from fun h=>by simp [bg,h]);have bZ:=ł (show bY n s=true→bg (.mk 53 n s (ae.ts l))=bL [aI,dw,dw,aI] (ae.ts l) from fun h=>by simp [bg,h,kM,kN,kP,kJ,kQ])
   go_enter Tryz.func32,Tryz.ntmps32
   go_wp2_with fail;refine dh.out.mono ?_;rintro e w2 ⟨rfl,hg2⟩;have HG2:=ł (Mv.trans HG.out hg2 (fun _ e=>e.elim));have hb2:=ai HB.out hg2;obtain ⟨m0,m1,m2,m3⟩:=dm hb2;have hlb:=lt_of_block hb2;clear hg2 hb2;generalize bY n s=pb at *;cases pb with
   | false =>
    have HR:=ł (dA.out rfl);go_wp2_with fail;go_ret;exact ⟨aD HR.out.symm,HG2.out⟩
   | true =>
    have HR:=ł (bZ.out rfl);have aA:=ł (HG2.out.alloc (.cells #[.func (.func 57) #[] #[],.func (.func 20) #[] #[],.func (.func 20) #[] #[],.func (.func 57) #[] #[]] 44));have HK:=ł (kL 53 n s (.slice a l.length cap) l [57,20,20,57] [aI,dw,dw,aI] (.slice (some ⟨w2.heap.size,0,none⟩) 4 4) (w2.alloc (.cells #[.func (.func 57) #[] #[],.func (.func 20) #[] #[],.func (.func 20) #[] #[],.func (.func 57) #[] #[]] 44)) (HX.out.later aA.out) (ax.bH (l:=[57,20,20,57]) (fun _=>rfl) (heap_alloc_new w2 _) rfl (by simp)) rfl (by decide) (fun i hi hk hp w' hg=>by
     have hgw:=Mv.trans aA.out hg (fun _ e=>e.elim);have hm:=List.getElem_mem hk;simp only [List.length_cons,List.length_nil] at hi;rcases Nat.lt_or_ge i 1 with h0 | h0
     · obtain rfl:i=0:=by omega
       exact oM _ w' ((HX.out.row.2.2.2.2 _ hm).later hgw)
     rcases Nat.lt_or_ge i 2 with h1 | h1
     · obtain rfl:i=1:=by omega
       exact eU.out _ hm w' hgw
     rcases Nat.lt_or_ge i 3 with h2 | h2
     · obtain rfl:i=2:=by omega
       exact eU.out _ hm w' hgw
     skip
     obtain rfl:i=3:=by omega
     exact oM _ w' ((HX.out.row.2.2.2.2 _ hm).later hgw)))
    simp only [ae.val] at HK;go_wp2_with fail;refine HK.out.mono ?_;rintro e w3 ⟨rfl,hg3⟩;have aG:=ł (Mv.trans aA.out hg3 (fun _ e=>e.elim));clear hg3;go_wp2_with fail;go_ret;exact ⟨aD HR.out.symm,aG.out⟩
 by_cases mK:k=54
 · subst mK;have HG:=ł (show Grow w (w.alloc (.cells #[.int .u8 54,.int .i64 n,.string s,.slice a l.length cap] 24)) from (Mv.refl _ _).alloc _);have HB:=ł (heap_alloc_new w (.cells #[.int .u8 54,.int .i64 n,.string s,.slice a l.length cap] 24));have dh:=ł (tO 54 n s a l cap (w.alloc (.cells #[.int .u8 54,.int .i64 n,.string s,.slice a l.length cap] 24)) hs);have dA:=ł (show dO n s=false→bg (.mk 54 n s (ae.ts l))=false from fun h=>by simp [bg,h]);have bZ:=ł (show dO n s=true→bg (.mk 54 n s (ae.ts l))=bL [aI,dw,aI] (ae.ts l) from fun h=>by simp [bg,h,kM,kN,kP,kJ,kQ])
   go_enter Tryz.func32,Tryz.ntmps32
   go_wp2_with fail;refine dh.out.mono ?_;rintro e w2 ⟨rfl,hg2⟩;have HG2:=ł (Mv.trans HG.out hg2 (fun _ e=>e.elim));have hb2:=ai HB.out hg2;obtain ⟨m0,m1,m2,m3⟩:=dm hb2;have hlb:=lt_of_block hb2;clear hg2 hb2;generalize dO n s=pb at *;cases pb with
   | false =>
    have HR:=ł (dA.out rfl);go_wp2_with fail;go_ret;exact ⟨aD HR.out.symm,HG2.out⟩
   | true =>
    have HR:=ł (bZ.out rfl);have aA:=ł (HG2.out.alloc (.cells #[.func (.func 57) #[] #[],.func (.func 20) #[] #[],.func (.func 57) #[] #[]] 44));have HK:=ł (kL 54 n s (.slice a l.length cap) l [57,20,57] [aI,dw,aI] (.slice (some ⟨w2.heap.size,0,none⟩) 3 3) (w2.alloc (.cells #[.func (.func 57) #[] #[],.func (.func 20) #[] #[],.func (.func 57) #[] #[]] 44)) (HX.out.later aA.out) (ax.bH (l:=[57,20,57]) (fun _=>rfl) (heap_alloc_new w2 _) rfl (by simp)) rfl (by decide) (fun i hi hk hp w' hg=>by
     have hgw:=Mv.trans aA.out hg (fun _ e=>e.elim);have hm:=List.getElem_mem hk;simp only [List.length_cons,List.length_nil] at hi;rcases Nat.lt_or_ge i 1 with h0 | h0
     · obtain rfl:i=0:=by omega
       exact oM _ w' ((HX.out.row.2.2.2.2 _ hm).later hgw)
     rcases Nat.lt_or_ge i 2 with h1 | h1
     · obtain rfl:i=1:=by omega
       exact eU.out _ hm w' hgw
     skip
     obtain rfl:i=2:=by omega
     exact oM _ w' ((HX.out.row.2.2.2.2 _ hm).later hgw)))
    simp only [ae.val] at HK;go_wp2_with fail;refine HK.out.mono ?_;rintro e w3 ⟨rfl,hg3⟩;have aG:=ł (Mv.trans aA.out hg3 (fun _ e=>e.elim));clear hg3;go_wp2_with fail;go_ret;exact ⟨aD HR.out.symm,aG.out⟩
 by_cases lu:k=55
 · subst lu;have HG:=ł (show Grow w (w.alloc (.cells #[.int .u8 55,.int .i64 n,.string s,.slice a l.length cap] 24)) from (Mv.refl _ _).alloc _);have HB:=ł (heap_alloc_new w (.cells #[.int .u8 55,.int .i64 n,.string s,.slice a l.length cap] 24));have dh:=ł (tO 55 n s a l cap (w.alloc (.cells #[.int .u8 55,.int .i64 n,.string s,.slice a l.length cap] 24)) hs);have dA:=ł (show dO n s=false→bg (.mk 55 n s (ae.ts l))=false from fun h=>by simp [bg,h]);have bZ:=ł (show dO n s=true→bg (.mk 55 n s (ae.ts l))=bL [dw] (ae.ts l) from fun h=>by simp [bg,h,kM,kN,kP,kJ,kQ])
   go_enter Tryz.func32,Tryz.ntmps32
   go_wp2_with fail;refine dh.out.mono ?_;rintro e w2 ⟨rfl,hg2⟩;have HG2:=ł (Mv.trans HG.out hg2 (fun _ e=>e.elim));have hb2:=ai HB.out hg2;obtain ⟨m0,m1,m2,m3⟩:=dm hb2;have hlb:=lt_of_block hb2;clear hg2 hb2;generalize dO n s=pb at *;cases pb with
   | false =>
    have HR:=ł (dA.out rfl);go_wp2_with fail;go_ret;exact ⟨aD HR.out.symm,HG2.out⟩
   | true =>
    have HR:=ł (bZ.out rfl);have aA:=ł (HG2.out.alloc (.cells #[.func (.func 20) #[] #[]] 44));have HK:=ł (kL 55 n s (.slice a l.length cap) l [20] [dw] (.slice (some ⟨w2.heap.size,0,none⟩) 1 1) (w2.alloc (.cells #[.func (.func 20) #[] #[]] 44)) (HX.out.later aA.out) (ax.bH (l:=[20]) (fun _=>rfl) (heap_alloc_new w2 _) rfl (by simp)) rfl (by decide) (fun i hi hk hp w' hg=>by
     have hgw:=Mv.trans aA.out hg (fun _ e=>e.elim);have hm:=List.getElem_mem hk;simp only [List.length_cons,List.length_nil] at hi
     skip
     obtain rfl:i=0:=by omega
     exact eU.out _ hm w' hgw))
    simp only [ae.val] at HK;go_wp2_with fail;refine HK.out.mono ?_;rintro e w3 ⟨rfl,hg3⟩;have aG:=ł (Mv.trans aA.out hg3 (fun _ e=>e.elim));clear hg3;go_wp2_with fail;go_ret;exact ⟨aD HR.out.symm,aG.out⟩
 have ab5:(k == 40)=false:=by simp;omega
 have ab6:(k == 41)=false:=by simp;omega
 have ab7:(k == 42)=false:=by simp;omega
 have ab8:(k == 43)=false:=by simp;omega
 have Zk:(k == 44)=false:=by simp;omega
 have Zl:(k == 45)=false:=by simp;omega
 have ab9:(k == 46)=false:=by simp;omega
 have aca:(k == 47)=false:=by simp;omega
 have acb:(k == 48)=false:=by simp;omega
 have acd:(k == 49)=false:=by simp;omega
 have Zm:(k == 50)=false:=by simp;omega
 have Zn:(k == 51)=false:=by simp;omega
 have ace:(k == 52)=false:=by simp;omega
 have acf:(k == 53)=false:=by simp;omega
 have Zo:(k == 54)=false:=by simp;omega
 have Zp:(k == 55)=false:=by simp;omega
 have acg:(k == 56)=false:=by simp;omega
 have HG:=ł (show Grow w (w.alloc (.cells #[.int .u8 k,.int .i64 n,.string s,.slice a l.length cap] 24)) from (Mv.refl _ _).alloc _);have HR:=ł (show bg (.mk k n s (ae.ts l))=false from by simp [bg,rq,ru,ry,h43,lY,h45,h46,h47,h48,sJ,h50,kD,sK,sM,mK,lu,uD]);clear rq ru ry h43 lY h45 h46 h47 h48 sJ h50 kD sK sM mK lu uD
 go_enter Tryz.func32,Tryz.ntmps32
 go_wp2_with fail;go_ret;exact ⟨aD HR.out.symm,HG.out⟩
theorem Hq:∀ m:Nat,II m∧Ih m
 | 0=>⟨fun x hm=>by cases x;simp at hm,fun x hm=>by cases x;simp at hm⟩
 | m+1=>⟨U1 m (Hq m).2,UI m (Hq m).1⟩
theorem Mq (x:ae) (w:World) (h:aV w x):Calls Tryz.prog 20 #[x.val] w (jN w (dw x.t)):=(Hq _).2 x (Nat.le_refl _) w h
end Go.Proofs.YtnobahchcongnaaGreatDoor
