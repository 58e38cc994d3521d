import Derived.Test.YtbpodipdfohikaaGreatK42
set_option linter.unusedSimpArgs false
set_option linter.unusedVariables false
set_option maxRecDepth 100000
set_option maxHeartbeats 25600000
namespace Go.Proofs.YtbpodipdfohikaaGreat
open Go.RowKit
def wL:Tree:=cO (aX (aS sT) (aC 0)) (aX (aS sA) (aC 0)) [dN sA sT]
def lp2:Tree:=cO (aX (aS sA) (aC 0)) (aX (aS sT) (aC 0)) [mV]
def qP:List Int->List Int->List Int->Except Int (List Int × List Int × List Int)
 | [],b,a => .ok ([],b,a)
 |e :: r,b,a=>if 1000<=b.length then .error 5 else if 1000<=a.length then .error 5 else qP r (b ++ [e]) (a ++ [e])
def nD:List Int->List Int->List Int->Except Int (List Int × List Int × List Int)
 | [],s,t => .ok (t,s.reverse,[])
 |_ :: _,[],_ => .error 13
 |e :: r,f :: s,t=>if f≠e then .error 16 else if 1000<=t.length then .error 5 else nD r s (t ++ [e])
theorem zi:aJ (aX (aS sT) (aC 0))=true:=by decide +kernel
theorem zo:aJ (aS sT)=true:=by decide +kernel
theorem Sz:aW wL=true:=by decide +kernel
theorem SA:aW lp2=true:=by decide +kernel
theorem SB:aW (uD sT [wL,lp2])=true:=by decide +kernel
theorem DN.trans {it ib ia:Nat} {C C' uL:List (List Int)} {t b a t' b' a':List Int} (h:DN it ib ia C C' t b a) (h2:DN it ib ia C' uL t' b' a'):DN it ib ia C uL t' b' a':=⟨h2.t,h2.b,h2.a,h.s.trans h2.s⟩
section
variable {P:List bC} {V:List (au × Nat)} {n fuel:Nat} {B:dQ} {it ib ia:Nat} (ht:bz V sT=some (⟨sT,3,0⟩,it)) (hb:bz V sB=some (⟨sB,3,0⟩,ib)) (ha:bz V sA=some (⟨sA,3,0⟩,ia)) (hx:bz V sX=none) (hy:bz V sY=none) (h1:it≠ib) (h2:it≠ia) (h3:ib≠ia)
include ht hb ha hx hy h1 h2 h3
theorem KS:∀ (r:List Int) {C:List (List Int)} {st g:Nat} {b a:List Int},C[it]? = some r.reverse->C[ib]? = some b->C[ia]? = some a->st+9 * r.length+9<=fuel->r.length+10<=g ->
 EG V n st (9 * r.length+1) B it ib ia C (exec P fuel g (.round lp2) false (S4 C V n st B)) (qP r b a)
 | [],C,st,g,b,a,ct,cb,ca,hf,hg=>by
  obtain⟨g,rfl⟩:∃ k,g=k+2:=⟨g - 2,by simp at hg;omega⟩
  unfold lp2
  rw[Bp]
  simp only[Bool.false_eq_true,if_false]
  rw[S4.holds (by simp at hf;omega) (jT zi zo ht ct)]
  simp only[List.length_nil,List.reverse_nil,beq_self_eq_true,if_true,uZ,aI,qP]
  exact⟨C,st+1,rfl,⟨ct,cb,ca,eO.refl _ _⟩,by omega⟩
 |e :: r,C,st,g,b,a,ct,cb,ca,hf,hg=>by
  simp only[List.length_cons]at hf hg
  obtain⟨g,rfl⟩:∃ k,g=k+9:=⟨g - 9,by omega⟩
  have e1:((e :: r).reverse.length == 0)=false:=by simp
  have e2:(e :: r).reverse≠[]:=by simp
  have e3:(e :: r).reverse.dropLast=r.reverse:=by simp
  have e4:(e :: r).reverse.getLast?.getD 0=e:=by simp
  unfold lp2
  rw[Bp]
  simp only[Bool.false_eq_true,if_false]
  rw[S4.holds (by omega) (jT zi zo ht ct)]
  simp only[e1,Bool.false_eq_true,if_false,wZ,aI]
  rw[show turned false [mV]=[mV]from rfl,fZ]
  have hd:=X8 (P:=P) (n:=n) (fuel:=fuel) (B:=B) ht hb ha hx hy h1 h2 h3 (st:=st+1) (g:=g+1) ct cb ca (by omega)
  unfold IZ at hd
  simp only[e2,e3,e4,if_false]at hd
  rw[qP]
  by_cases hF:1000<=b.length
  · rw[if_pos hF]at hd ⊢
    have hd:exec P fuel (g+1+6) _ _ _=_:=hd
    rw[hd];rfl
  rw[if_neg hF]at hd ⊢
  by_cases hF2:1000<=a.length
  · rw[if_pos hF2]at hd ⊢
    have hd:exec P fuel (g+1+6) _ _ _=_:=hd
    rw[hd];rfl
  rw[if_neg hF2]at hd ⊢
  obtain⟨C',st',d1,d2,d3⟩:=hd
  rw[d1]
  simp only[aI,kN]
  rw[S4.holds (by omega) (jT rW lJ ha d2.a)]
  have e5:((a ++ [e]).length == 0)=false:=by simp
  simp only[e5,Bool.false_eq_true,if_false,wZ]
  have ih:=KS r (C:=C') (st:=st'+1) (g:=g+8) (b:=b ++ [e]) (a:=a ++ [e]) d2.t d2.b d2.a (by omega) (by omega)
  unfold lp2 at ih
  cases hL:qP r (b ++ [e]) (a ++ [e])with
  |error x=>rw[hL]at ih;exact ih
  |ok y =>
   rw[hL]at ih
   obtain⟨uL,I1,f1,f2,f3⟩:=ih
   exact⟨uL,I1,f1,d2.trans f2,by simp only[List.length_cons];omega⟩
theorem Kz:∀ (r s:List Int) {C:List (List Int)} {st g:Nat} {t:List Int},C[it]? = some t->C[ib]? = some s.reverse->C[ia]? = some r.reverse->st+9 * r.length+9<=fuel->r.length+10<=g ->
 EG V n st (9 * r.length+1) B it ib ia C (exec P fuel g (.round lp2) true (S4 C V n st B)) (nD r s t)
 | [],s,C,st,g,t,ct,cb,ca,hf,hg=>by
  obtain⟨g,rfl⟩:∃ k,g=k+2:=⟨g - 2,by simp at hg;omega⟩
  unfold lp2
  rw[Bp]
  simp only[if_true]
  rw[S4.holds (by simp at hf;omega) (jT rW lJ ha ca)]
  simp only[List.length_nil,List.reverse_nil,beq_self_eq_true,if_true,uZ,aI,nD]
  exact⟨C,st+1,rfl,⟨ct,cb,ca,eO.refl _ _⟩,by omega⟩
 |e :: r,s,C,st,g,t,ct,cb,ca,hf,hg=>by
  simp only[List.length_cons]at hf hg
  obtain⟨g,rfl⟩:∃ k,g=k+9:=⟨g - 9,by omega⟩
  have e1:((e :: r).reverse.length == 0)=false:=by simp
  have e2:(e :: r).reverse≠[]:=by simp
  have e3:(e :: r).reverse.dropLast=r.reverse:=by simp
  have e4:(e :: r).reverse.getLast?.getD 0=e:=by simp
  unfold lp2
  rw[Bp]
  simp only[if_true]
  rw[S4.holds (by omega) (jT rW lJ ha ca)]
  simp only[e1,Bool.false_eq_true,if_false,wZ,aI]
  rw[show turned true [mV]=[mV]from rfl,fZ]
  have hd:=V7 (P:=P) (n:=n) (fuel:=fuel) (B:=B) ht hb ha hx hy h1 h2 h3 (st:=st+1) (g:=g+1) ct cb ca (by omega)
  unfold Ib at hd
  simp only[e2,e3,e4,if_false]at hd
  cases s with
  |nil =>
   simp only[List.reverse_nil,if_true,nD]at hd ⊢
   have hd:exec P fuel (g+1+6) _ _ _=_:=hd
   rw[hd];rfl
  |cons f s =>
   have f2:(f :: s).reverse≠[]:=by simp
   have f3:(f :: s).reverse.dropLast=s.reverse:=by simp
   have f4:(f :: s).reverse.getLast?.getD 0=f:=by simp
   simp only[f2,f3,f4,if_false]at hd
   rw[nD]
   by_cases hF:f≠e
   · rw[if_pos hF]at hd ⊢
     have hd:exec P fuel (g+1+6) _ _ _=_:=hd
     rw[hd];rfl
   rw[if_neg hF]at hd ⊢
   by_cases hF2:1000<=t.length
   · rw[if_pos hF2]at hd ⊢
     have hd:exec P fuel (g+1+6) _ _ _=_:=hd
     rw[hd];rfl
   rw[if_neg hF2]at hd ⊢
   obtain⟨C',st',d1,d2,d3⟩:=hd
   rw[d1]
   simp only[aI,kN]
   rw[S4.holds (by omega) (jT zi zo ht d2.t)]
   have e5:((t ++ [e]).length == 0)=false:=by simp
   simp only[e5,Bool.false_eq_true,if_false,wZ]
   have ih:=Kz r s (C:=C') (st:=st'+1) (g:=g+8) (t:=t ++ [e]) d2.t d2.b d2.a (by omega) (by omega)
   unfold lp2 at ih
   cases hL:nD r s (t ++ [e])with
   |error x=>rw[hL]at ih;exact ih
   |ok y =>
    rw[hL]at ih
    obtain⟨uL,I1,f1,f2,f3⟩:=ih
    exact⟨uL,I1,f1,d2.trans f2,by simp only[List.length_cons];omega⟩
end
def Ac (A G:List Int):Except Int (List Int × List Int):=match jr (λs _=>s == 0) (λ_ d=>d == 0) A.reverse []with
 |.error e => .error e
 |.ok (l,T)=>if l=[]then(match qP T.reverse G l with
  |.error e => .error e
  |.ok (t,b,a)=>if t=[]then .ok (a,b)else .error 16)else .error 15
def Nr (A G:List Int):Except Int (List Int × List Int):=match nD A.reverse G.reverse []with
 |.error e => .error e
 |.ok (T,b,a)=>if a=[]then(match jr (λs _=>s == 0) (λ_ d=>d == 0) T.reverse a with
  |.error e => .error e
  |.ok (t,a)=>if t=[]then .ok (a,b)else .error 16)else .error 15
theorem len_nil (l:List Int):(l.length == 0)=decide (l=[]):=by cases l <;> simp
theorem Ad {C:List (List Int)} : bz ([vS sA 0,vS sB 1] ++ [(⟨sT,3,0⟩,C.length)]) sT=some (⟨sT,3,0⟩,C.length):=rfl
theorem Le (fX fE:Nat->Nat->Bool):∀ (r G l G':List Int),jr fX fE r G = .ok (l,G')->G'.length<=G.length+r.length
 | [],G,l,G',h=>by
  rw[jr]at h
  split at h
  · simp only[Except.ok.injEq,Prod.mk.injEq]at h;rw[← h.2];omega
  · cases h
 |e :: r,G,l,G',h=>by
  rw[jr]at h
  split at h
  · simp only[Except.ok.injEq,Prod.mk.injEq]at h;rw[← h.2];omega
  · split at h
    · cases h
    · split at h
      · cases h
      · have:=Le fX fE r (G ++ [e]) l G' h
        simp only[List.length_append,List.length_cons,List.length_nil]at this ⊢
        omega
theorem KA:∀ (r s t T b a:List Int),nD r s t = .ok (T,b,a)->T.length=t.length+r.length
 | [],s,t,T,b,a,h=>by
  rw[nD]at h
  simp only[Except.ok.injEq,Prod.mk.injEq]at h
  rw[← h.1];rfl
 |e :: r,[],t,T,b,a,h=>by rw[nD]at h;cases h
 |e :: r,f :: s,t,T,b,a,h=>by
  rw[nD]at h
  split at h
  · cases h
  · split at h
    · cases h
    · have:=KA r s (t ++ [e]) T b a h
      simp only[List.length_append,List.length_cons,List.length_nil]at this ⊢
      omega
set_option maxHeartbeats 2000000 in
theorem Xl {P:List bC} {C:List (List Int)} {n st fuel g:Nat} {B:dQ} {A G:List Int} (hA:C[0]? = some A) (hG:C[1]? = some G) (hf:st+16 * A.length+20<=fuel) (hg:A.length+20<=g) :
 tu [vS sA 0,vS sB 1] n st (16 * A.length+20) B (exec P fuel g (.stmts (turned false Ca.kids)) false (S4 C [vS sA 0,vS sB 1] n st B)) (Ac A G):=by
 obtain⟨g,rfl⟩:∃ k,g=k+6:=⟨g - 6,by omega⟩
 have h0:=gV hA
 have h1:=gV hG
 show tu _ _ _ _ _ (exec P fuel (g+6) (.stmts [uD sT [wL,lp2]]) false _) _
 rw[fZ,Nl SB,S4.step (by omega)]
 simp only[aI]
 rw[S4.open (by rfl)]
 simp only[show ¬ (3:Int)=1 by decide,if_false,turned,Bool.false_eq_true]
 rw[fZ,show wL=cO (aX (aS sT) (aC 0)) (aX (aS sA) (aC 0)) [dN sA sT]from rfl,zJ Sz]
 simp only[Bool.false_eq_true,if_false]
 rw[S4.holds (by omega) (jT zi zo Ad (uU C []))]
 simp only[List.length_nil,beq_self_eq_true,if_true,uZ,aI]
 have L:=BB (P:=P) (V:=[vS sA 0,vS sB 1] ++ [(⟨sT,3,0⟩,C.length)]) (n:=n+1) (fuel:=fuel) (B:=B) (E:=aX (aS sT) (aC 0)) (X:=aX (aS sA) (aC 0)) (dp:=⟨sA,3,0⟩) (dq:=⟨sT,3,0⟩) (ip:=0) (iq:=C.length) (λs _=>s == 0) (λ_ d=>d == 0) false Nq (by rfl) (by rfl) rfl (by rfl) rfl (by omega)
  (λD=>C.length<D.length) (λD D' h hs=>Nat.lt_of_lt_of_le h hs.1)
  (λD st l G hD hl hG=>by
   rw[if_neg (by decide)]
   exact jT rW lJ (d:=⟨sA,3,0⟩) (i:=0) rfl hl)
  (λD st l G hD hl hG=>by
   rw[if_neg (by decide)]
   exact jT zi zo Ad hG)
  A.reverse (C:=C ++ [[]]) (st:=st+1+1) (g:=g+2) (G:=[]) (by simp) (by rw[List.reverse_reverse];exact eU hA) (uU C []) (by simp;omega) (by simp;omega)
 unfold Ac
 cases hL:jr (λs _=>s == 0) (λ_ d=>d == 0) A.reverse []with
 |error e =>
  rw[hL]at L
  simp only at L
  rw[L];rfl
 |ok y =>
  obtain⟨l,T⟩:=y
  have FZ:T.length<=A.length:=by simpa using Le _ _ _ _ _ _ hL
  rw[hL]at L
  obtain⟨C1,st1,L1,L2,L3,L4,L5⟩:=L
  rw[L1]
  simp only[List.length_reverse]at L5
  have hg1:C1[1]? = some G:=(L4.2 1 (by simp;omega) (by omega)).trans (eU hG)
  have hcl:C.length<C1.length:=by have:=L4.1;simp at this;omega
  simp only
  rw[fZ,show lp2=cO (aX (aS sA) (aC 0)) (aX (aS sT) (aC 0)) [mV]from rfl,zJ SA]
  simp only[Bool.false_eq_true,if_false]
  rw[S4.holds (by omega) (jT rW lJ (d:=⟨sA,3,0⟩) (i:=0) rfl L2)]
  rw[len_nil]
  by_cases hl:l=[]
  · subst hl
    simp only[decide_true,if_true,uZ,aI]
    have D:=KS (P:=P) (V:=[vS sA 0,vS sB 1] ++ [(⟨sT,3,0⟩,C.length)]) (n:=n+1) (fuel:=fuel) (B:=B) (it:=C.length) (ib:=1) (ia:=0) Ad (by rfl) (by rfl) (by rfl) (by rfl) (by omega) (by omega) (by omega) T.reverse (C:=C1) (st:=st1+1) (g:=g+1) (b:=G) (a:=[]) (by rw[List.reverse_reverse];exact L3) hg1 L2 (by simp;omega) (by simp;omega)
    cases hD:qP T.reverse G []with
    |error e =>
     rw[hD]at D
     have D:exec P fuel (g+1) _ _ _=_:=D
     unfold lp2 at D
     rw[D];rfl
    |ok y =>
     obtain⟨t,b,a⟩:=y
     rw[hD]at D
     obtain⟨C2,st2,D1,D2,D3⟩:=D
     unfold lp2 at D1
     rw[D1]
     simp only[List.length_reverse]at D3
     simp only[kN]
     rw[S4.step (by omega)]
     simp only
     rw[S4.NI D2.t]
     by_cases hc:t=[]
     · simp only[hc,if_true]
       exact⟨_,_,rfl,D2.a,D2.b,by omega⟩
     · simp only[hc,if_false];rfl
  · simp only[hl,decide_false,Bool.false_eq_true,if_false,wZ,aI];rfl
set_option maxHeartbeats 2000000 in
theorem abA {P:List bC} {C:List (List Int)} {n st fuel g:Nat} {B:dQ} {A G:List Int} (hA:C[0]? = some A) (hG:C[1]? = some G) (hf:st+16 * A.length+20<=fuel) (hg:A.length+20<=g) :
 tu [vS sA 0,vS sB 1] n st (16 * A.length+20) B (exec P fuel g (.stmts (turned true Ca.kids)) true (S4 C [vS sA 0,vS sB 1] n st B)) (Nr A G):=by
 obtain⟨g,rfl⟩:∃ k,g=k+6:=⟨g - 6,by omega⟩
 have h0:=gV hA
 have h1:=gV hG
 show tu _ _ _ _ _ (exec P fuel (g+6) (.stmts [uD sT [wL,lp2]]) true _) _
 rw[fZ,Nl SB,S4.step (by omega)]
 simp only[aI]
 rw[S4.open (by rfl)]
 simp only[show ¬ (3:Int)=1 by decide,if_false]
 rw[show turned true [wL,lp2]=[lp2,wL]from rfl]
 rw[fZ,show lp2=cO (aX (aS sA) (aC 0)) (aX (aS sT) (aC 0)) [mV]from rfl,zJ SA]
 simp only[if_true]
 rw[S4.holds (by omega) (jT zi zo Ad (uU C []))]
 simp only[List.length_nil,beq_self_eq_true,if_true,uZ,aI]
 have D:=Kz (P:=P) (V:=[vS sA 0,vS sB 1] ++ [(⟨sT,3,0⟩,C.length)]) (n:=n+1) (fuel:=fuel) (B:=B) (it:=C.length) (ib:=1) (ia:=0) Ad (by rfl) (by rfl) (by rfl) (by rfl) (by omega) (by omega) (by omega) A.reverse G.reverse (C:=C ++ [[]]) (st:=st+1+1) (g:=g+2) (t:=[]) (uU C []) (by rw[List.reverse_reverse];exact eU hG) (by rw[List.reverse_reverse];exact eU hA) (by simp;omega) (by simp;omega)
 unfold Nr
 cases hD:nD A.reverse G.reverse []with
 |error e =>
  rw[hD]at D
  have D:exec P fuel (g+2) _ _ _=_:=D
  unfold lp2 at D
  rw[D];rfl
 |ok y =>
  obtain⟨T,b,a⟩:=y
  have FZ:T.length=A.length:=by simpa using KA _ _ _ _ _ _ hD
  rw[hD]at D
  obtain⟨C1,st1,D1,D2,D3⟩:=D
  unfold lp2 at D1
  rw[D1]
  simp only[List.length_reverse]at D3
  simp only
  rw[fZ,show wL=cO (aX (aS sT) (aC 0)) (aX (aS sA) (aC 0)) [dN sA sT]from rfl,zJ Sz]
  simp only[if_true]
  rw[S4.holds (by omega) (jT rW lJ (d:=⟨sA,3,0⟩) (i:=0) rfl D2.a)]
  rw[len_nil]
  have hcl:C.length<C1.length:=gV D2.t
  by_cases hl:a=[]
  · subst hl
    simp only[decide_true,if_true,uZ,aI]
    have L:=BB (P:=P) (V:=[vS sA 0,vS sB 1] ++ [(⟨sT,3,0⟩,C.length)]) (n:=n+1) (fuel:=fuel) (B:=B) (E:=aX (aS sT) (aC 0)) (X:=aX (aS sA) (aC 0)) (dp:=⟨sT,3,0⟩) (dq:=⟨sA,3,0⟩) (ip:=C.length) (iq:=0) (λs _=>s == 0) (λ_ d=>d == 0) true Nq (by rfl) (by rfl) rfl (by rfl) rfl (by omega)
     (λD=>C.length<D.length) (λD D' h hs=>Nat.lt_of_lt_of_le h hs.1)
     (λD st l G hD hl hG=>by
      rw[if_pos rfl]
      exact jT zi zo Ad hl)
     (λD st l G hD hl hG=>by
      rw[if_pos rfl]
      exact jT rW lJ (d:=⟨sA,3,0⟩) (i:=0) rfl hG)
     T.reverse (C:=C1) (st:=st1+1) (g:=g+1) (G:=[]) hcl (by rw[List.reverse_reverse];exact D2.t) D2.a (by simp;omega) (by simp;omega)
    cases hL:jr (λs _=>s == 0) (λ_ d=>d == 0) T.reverse []with
    |error e =>
     rw[hL]at L
     simp only at L
     rw[L];rfl
    |ok y =>
     obtain⟨t,a⟩:=y
     rw[hL]at L
     obtain⟨C2,st2,L1,L2,L3,L4,L5⟩:=L
     rw[L1]
     simp only[List.length_reverse]at L5
     have hg1:C2[1]? = some b:=(L4.2 1 (by omega) (by omega)).trans D2.b
     simp only[kN]
     rw[S4.step (by omega)]
     simp only
     rw[S4.NI L2]
     by_cases hc:t=[]
     · simp only[hc,if_true]
       exact⟨_,_,rfl,L3,hg1,by omega⟩
     · simp only[hc,if_false];rfl
  · simp only[hl,decide_false,Bool.false_eq_true,if_false,wZ,aI];rfl
theorem Gu (fE:Nat->Nat->Bool):∀ (r G:List Int),(∀ s d,s<r.length->fE s (d+1)=false)->jr (λs _=>s == 0) fE r G=if r.length+G.length<=1000\/r=[]then .ok ([],G ++ r)else .error 5
 | [],G,_=>by simp[jr]
 |e :: r,G,h=>by
  rw[jr,if_neg (by simp),h r.length G.length (by simp)]
  by_cases hF:1000<=G.length
  · rw[if_pos hF,if_neg]
    simp only[List.length_cons,reduceCtorEq,or_false]
    omega
  · rw[if_neg hF,if_neg (by decide),Gu fE r (G ++ [e]) (λs d hs=>h s d (by simp;omega))]
    simp only[List.length_append,List.length_cons,List.length_nil,List.append_assoc,List.singleton_append,reduceCtorEq,or_false]
    by_cases h2:r.length+1+G.length<=1000
    · rw[if_pos h2,if_pos (.inl (by omega))]
    · rw[if_neg h2,if_neg]
      rintro(h3|h3)
      · omega
      · subst h3;simp at h2;omega
theorem Ma (A G:List Int):zU A G=if A.length+G.length+1<=1000 then .ok ([],G ++ A.reverse ++ [(A.length:Int)])else .error 5:=by
 unfold zU
 rw[Gu _ _ _ (λs d hs=>by simp at hs ⊢;omega)]
 by_cases h:A.reverse.length+G.length<=1000\/A.reverse=[]
 · rw[if_pos h]
   simp only[List.length_append,List.length_reverse]at h ⊢
   by_cases h2:1000<=G.length+A.length
   · rw[if_pos h2,if_neg (by omega)]
   · rw[if_neg h2,if_pos (by omega)]
 · rw[if_neg h]
   simp only[List.length_reverse,not_or]at h
   rw[if_neg (by omega)]
theorem KT:∀ (r b a:List Int),a.length+r.length<=1000->qP r b a=if r.length+b.length<=1000\/r=[]then .ok ([],b ++ r,a ++ r)else .error 5
 | [],b,a,_=>by simp[qP]
 |e :: r,b,a,h=>by
  simp only[List.length_cons]at h
  rw[qP]
  by_cases hF:1000<=b.length
  · rw[if_pos hF,if_neg]
    simp only[List.length_cons,reduceCtorEq,or_false]
    omega
  · rw[if_neg hF,if_neg (by omega),KT r (b ++ [e]) (a ++ [e]) (by simp;omega)]
    simp only[List.length_append,List.length_cons,List.length_nil,List.append_assoc,List.singleton_append,reduceCtorEq,or_false]
    by_cases h2:r.length+1+b.length<=1000
    · rw[if_pos h2,if_pos (.inl (by omega))]
    · rw[if_neg h2,if_neg]
      rintro(h3|h3)
      · omega
      · subst h3;simp at h2;omega
theorem Xm (A G:List Int) (hA:A.length<=1000) (hG:G.length<=1000):Ac A G=if A.length+G.length<=1000 then .ok (A,G ++ A)else .error 5:=by
 unfold Ac
 rw[Gu _ _ _ (λs d hs=>by simp),if_pos (.inl (by simpa using hA))]
 simp only[List.nil_append,List.reverse_reverse,if_true]
 rw[KT A G [] (by simpa using hA)]
 by_cases h:A.length+G.length<=1000
 · rw[if_pos (.inl h),if_pos h];rfl
 · rw[if_neg h,if_neg]
   rintro(h3|h3)
   · exact h h3
   · subst h3;simp at h;omega
def jy:ByteArray:=⟨#[108,99,111,112,121]⟩
def jU:ByteArray:=⟨#[108,115,112,105,108,108]⟩
def jb (k:Int) (n:ByteArray):Tree := .mk k 0 n [bR sA,bR sB]
def Cf:bC:=⟨jy,[⟨sA,3,0⟩,⟨sB,3,0⟩],Ca⟩
def BM:bC:=⟨jU,[⟨sA,3,0⟩,⟨sG,3,0⟩],BL⟩
def eG:List bC:=[Cf,BM]
def B0:dQ:=⟨[vS sA 0,vS sB 1],0⟩
def s0 (A G:List Int):ai:=⟨[A,G],B0,[],0⟩
def Ae (r:Option (Except Int ai)) (a:Except Int (List Int × List Int)):Prop:=match a with
 |.error e=>r=some (.error e)
 |.ok y=>∃ C' st',r=some (.ok ⟨C',B0,[],st'⟩)/\C'[0]? = some y.1/\C'[1]? = some y.2/\st'<=20000
theorem Mc {k:Int} {nm x:ByteArray} {d:bC} {A G:List Int} {R:Except Int (List Int × List Int)} {g m:Nat} (hk:k=50\/k=51) (hs:aW (jb k nm)=true) (hd:eG.find? (λp=>p.name == nm)=some d) (hp:d.params=[⟨sA,3,0⟩,⟨x,3,0⟩])
 (H:tu [vS sA 0,vS x 1] 0 1 m B0 (exec eG 100000 g (.stmts (turned (k == 51) d.body.kids)) (k == 51) (S4 [A,G] [vS sA 0,vS x 1] 0 1 B0)) R) (hm:m<=19990) (hg:0<g) :
 Ae (exec eG 100000 (g+1+1) (.stmts [jb k nm]) false (s0 A G)) R:=by
 obtain⟨g,rfl⟩:∃ j,g=j+1:=⟨g - 1,by omega⟩
 rw[fZ,exec,if_neg (by rw[hs];decide),if_neg (show ¬ (jb k nm).kind=53 from by show ¬ k=53;omega),if_neg (show ¬ (jb k nm).kind=54 from by show ¬ k=54;omega),if_neg (show ¬ (jb k nm).kind=55 from by show ¬ k=55;omega),if_pos (show(jb k nm).kind=50\/(jb k nm).kind=51 from hk)]
 rw[show(jb k nm).name=nm from rfl,hd]
 have e1:(s0 A G).step 100000 = .ok ⟨[A,G],B0,[],1⟩:=rfl
 have e2:ai.enter ⟨[A,G],B0,[],1⟩ d.params ((jb k nm).kids.map Tree.name) = .ok (S4 [A,G] [vS sA 0,vS x 1] 0 1 B0):=by
  rw[hp];rfl
 rw[e1]
 simp only[aI]
 rw[e2]
 have eb:(false != ((jb k nm).kind == 51))=(k == 51):=by
  rw[show(jb k nm).kind=k from rfl];cases(k == 51) <;> rfl
 simp only[eb]
 cases R with
 |error e =>
  have H:exec eG 100000 (g+1) _ _ _=_:=H
  rw[H];rfl
 |ok y =>
  obtain⟨C',st',h1,h2,h3,h4⟩:=H
  rw[h1]
  simp only[kN]
  rw[S4.step (by omega)]
  simp only
  exact⟨C',st'+1,rfl,h2,h3,by omega⟩
theorem Xn {A G:List Int} (hA:A.length<=1000):Ae (exec eG 100000 1022 (.stmts [jb 50 jy]) false (s0 A G)) (Ac A G) :=
 Mc (d:=Cf) (g:=1020) (x:=sB) (.inl rfl) (by decide +kernel) (by rfl) rfl (Xl rfl rfl (by omega) (by omega)) (by omega) (by decide)
theorem Md {A G:List Int} (hA:A.length<=1000):Ae (exec eG 100000 1022 (.stmts [jb 50 jU]) false (s0 A G)) (zU A G) :=
 Mc (d:=BM) (g:=1020) (x:=sG) (.inl rfl) (by decide +kernel) (by rfl) rfl (V6 rfl rfl (by omega) (by omega)) (by omega) (by decide)
end Go.Proofs.YtbpodipdfohikaaGreat
