import Derived.Test.YtbpodipdfohikaaGreatK31
set_option linter.unusedSimpArgs false
set_option linter.unusedVariables false
set_option maxRecDepth 100000
set_option maxHeartbeats 25600000
namespace Go.Proofs.YtbpodipdfohikaaGreat
open Go.RowKit
structure E5 (p q:ByteArray):Prop where
 st:aW (dN p q)=true
 pp:aW (fT sX p)=true
 ps:aW (psT sX q)=true
 np:(sX == p)=false
 nq:(sX == q)=false
theorem eU {C D:List (List Int)} {i:Nat} {l:List Int} (h:C[i]? = some l):(C ++ D)[i]? = some l:=by
 have hi:i<C.length:=(List.getElem?_eq_some_iff.1 h).1
 rw[List.getElem?_append_left hi];exact h
theorem gV {C:List (List Int)} {i:Nat} {l:List Int} (h:C[i]? = some l):i<C.length:=(List.getElem?_eq_some_iff.1 h).1
theorem qM {C:List (List Int)} {V:List (au × Nat)} {n st:Nat} {B:dQ} : (S4 C V n st B).value (aC 0)=some (.ok 0):=S4.value (S4.num (Int.le_refl 0))
set_option maxHeartbeats 1000000 in
theorem YM {P:List bC} {C:List (List Int)} {V:List (au × Nat)} {n st fuel g:Nat} {B:dQ} {p q:ByteArray} {dp dq:au} {ip iq:Nat} {l G:List Int} (b:Bool) (hM:E5 p q) (hx:bz V sX=none)
 (hp:bz V (if b then q else p)=some (dp,ip)) (hkp:dp.kind=3) (hq:bz V (if b then p else q)=some (dq,iq)) (hkq:dq.kind=3) (hl:C[ip]? = some l) (hG:C[iq]? = some G) (hne:ip≠iq) (hf:st+4<=fuel) :
 exec P fuel (g+4) (.stmt (dN p q)) b (S4 C V n st B)=some (if l=[]then .error 13 else if 1000<=G.length then .error 5 else .ok (S4 (((C.set ip l.dropLast).set iq (G ++ [l.getLast?.getD 0])) ++ [[0]]) V n (st+4) B)):=by
 have h1:=gV hl
 have h2:=gV hG
 have F6:=hM.np
 have hnq:=hM.nq
 have e1:(if b then aC 0 else aC 0)=aC 0:=by cases b <;> rfl
 unfold dN
 rw[wR hM.st,S4.step (by omega)]
 simp only[aI,e1,qM]
 rw[S4.open hx]
 simp only[if_true]
 have key:∀ (x y:ByteArray),(sX == x)=false->(sX == y)=false->bz V x=some (dp,ip)->bz V y=some (dq,iq) ->
  (aI (aI (some ((S4 (C ++ [[0]]) (V ++ [(⟨sX,1,0⟩,C.length)]) (n+1) (st+1) B).step fuel)) λs=>s.move false x sX) λs=>aI (some (s.step fuel)) λs=>s.move true y sX)=some (if l=[]then .error 13 else if 1000<=G.length then .error 5 else .ok (S4 (((C.set ip l.dropLast).set iq (G ++ [l.getLast?.getD 0])) ++ [[0]]) (V ++ [(⟨sX,1,0⟩,C.length)]) (n+1) (st+1+1+1) B)):=by
  intro x y hnx hny hx hy
  rw[S4.step (by omega)]
  simp only[aI]
  have lx:bz (V ++ [(⟨sX,1,0⟩,C.length)]) x=some (dp,ip):=by rw[Bo];simp only[hnx];exact hx
  have ly:bz (V ++ [(⟨sX,1,0⟩,C.length)]) y=some (dq,iq):=by rw[Bo];simp only[hny];exact hy
  have lz:bz (V ++ [(⟨sX,1,0⟩,C.length)]) sX=some (⟨sX,1,0⟩,C.length):=by rw[Bo];simp
  rw[S4.pop lx hkp lz rfl (eU hl) (v:=0) (by simp) (by omega)]
  by_cases hE:l=[]
  · simp only[hE,if_true]
  · simp only[hE,if_false,ne_eq,not_true_eq_false]
    rw[S4.step (by omega)]
    simp only
    rw[S4.push ly hkq lz rfl (c:=G) (v:=l.getLast?.getD 0) (by
     rw[List.getElem?_set_ne (by omega),List.getElem?_set_ne hne];exact eU hG) (by rw[List.getElem?_set_self (by simp)]) (by omega)]
    by_cases hF:1000<=G.length
    · simp[hF]
    · simp only[hF,if_false]
      congr 3
      have e:∀ (D:List (List Int)) (i:Nat) (v:List Int) (z:List Int),i<D.length->(D ++ [z]).set i v=D.set i v ++ [z]:=λD i v z hi=>by rw[List.set_append_left _ _ hi]
      have e2:∀ (D:List (List Int)) (k:Nat) (v z:List Int),D.length=k->(D ++ [z]).set k v=D ++ [v]:=λD k v z hk=>by subst hk;rw[List.set_append_right _ _ (Nat.le_refl _)];simp
      rw[e _ _ _ _ h1,e2 _ _ _ _ (by simp),e _ _ _ _ (by simpa using h2),e2 _ _ _ _ (by simp)]
 have fin:∀ r:Except Int ai,r=(if l=[]then .error 13 else if 1000<=G.length then .error 5 else .ok (S4 (((C.set ip l.dropLast).set iq (G ++ [l.getLast?.getD 0])) ++ [[0]]) (V ++ [(⟨sX,1,0⟩,C.length)]) (n+1) (st+1+1+1) B)) ->
  (aI (some r) λs=>aI (some (s.step fuel)) λs=>aI (s.value (aC 0)) λv=>s.close sX v)=some (if l=[]then .error 13 else if 1000<=G.length then .error 5 else .ok (S4 (((C.set ip l.dropLast).set iq (G ++ [l.getLast?.getD 0])) ++ [[0]]) V n (st+4) B)):=by
  rintro r rfl
  by_cases hE:l=[]
  · simp[hE,aI]
  · by_cases hF:1000<=G.length
    · simp[hE,hF,aI]
    · simp only[hE,hF,if_false,aI]
      rw[S4.step (by omega)]
      simp only[qM]
      rw[S4.close (c:=0) (by rw[List.getElem?_append_right (by simp)];simp)]
      rfl
 have nil:∀ {r:Option (Except Int ai)},aI r (λs=>some (.ok s))=r:=by
  intro r
  rcases r with - | e|s <;> rfl
 cases b with
 |false =>
  have k:=key p q F6 hnq hp hq
  simp only[turned,Bool.false_eq_true,if_false,fZ,Ep hM.pp,uR hM.ps,Bool.not_false,kN]
  rw[← fin _ rfl,← k]
  simp only[nil]
  rfl
 |true =>
  have k:=key q p hnq F6 hp hq
  simp only[turned,if_true,List.reverse_cons,List.reverse_nil,List.nil_append,List.cons_append,fZ,Ep hM.pp,uR hM.ps,Bool.not_true,kN]
  rw[← fin _ rfl,← k]
  simp only[nil]
  rfl
def jr (fX fE:Nat->Nat->Bool):List Int->List Int->Except Int (List Int × List Int)
 | [],G=>if fX 0 G.length then .ok ([],G)else .error 13
 |e :: r,G=>if fX (r.length+1) G.length then .ok ((e :: r).reverse,G)else if 1000<=G.length then .error 5 else if fE r.length (G.length+1)then .error 15 else jr fX fE r (G ++ [e])
def eO (K:Nat->Prop) (C C':List (List Int)):Prop:=C.length<=C'.length/\∀ k,k<C.length->¬ K k->C'[k]? = C[k]?
theorem eO.trans {K:Nat->Prop} {C C' uL:List (List Int)} (h:eO K C C') (h2:eO K C' uL):eO K C uL :=
 ⟨Nat.le_trans h.1 h2.1,λk hk hn=>(h2.2 k (Nat.lt_of_lt_of_le hk h.1) hn).trans (h.2 k hk hn)⟩
theorem eO.set {K:Nat->Prop} {C C':List (List Int)} {i:Nat} (h:eO K C C') (hi:K i) (v:List Int):eO K C (C'.set i v) :=
 ⟨by simpa using h.1,λk hk hn=>by rw[List.getElem?_set_ne (show i≠k from λe=>hn (by rw[← e];exact hi))];exact h.2 k hk hn⟩
theorem eO.app {K:Nat->Prop} {C C':List (List Int)} (h:eO K C C') (D:List (List Int)):eO K C (C' ++ D) :=
 ⟨by have:=h.1;simp;omega,λk hk hn=>by rw[List.getElem?_append_left (Nat.lt_of_lt_of_le hk h.1)];exact h.2 k hk hn⟩
theorem eO.refl (K:Nat->Prop) (C:List (List Int)):eO K C C:=⟨Nat.le_refl _,λ_ _ _=>rfl⟩
section
variable {P:List bC} {V:List (au × Nat)} {n fuel:Nat} {B:dQ} {p q:ByteArray} {dp dq:au} {ip iq:Nat} {E X:Tree} (fX fE:Nat->Nat->Bool) (b:Bool) (hM:E5 p q) (hx:bz V sX=none)
 (hp:bz V (if b then q else p)=some (dp,ip)) (hkp:dp.kind=3) (hq:bz V (if b then p else q)=some (dq,iq)) (hkq:dq.kind=3) (hne:ip≠iq)
 (I:List (List Int)->Prop) (hI:∀ C C',I C->eO (λk=>k=ip\/k=iq) C C'->I C')
 (tX:∀ C st l G,I C->C[ip]? = some l->C[iq]? = some G->(S4 C V n st B).val (if b then E else X)=some (if fX l.length G.length then 1 else 0,0))
 (tE:∀ C st l G,I C->C[ip]? = some l->C[iq]? = some G->(S4 C V n st B).val (if b then X else E)=some (if fE l.length G.length then 1 else 0,0))
include hM hx hp hkp hq hkq hne hI tX tE
theorem L6 {C:List (List Int)} {st g:Nat} {l G:List Int} (hC:I C) (hl:C[ip]? = some l) (hG:C[iq]? = some G) (hf:st+6<=fuel) :
 exec P fuel (g+6) (.round (cO E X [dN p q])) b (S4 C V n st B)=if fX l.length G.length then some (.ok (S4 C V n (st+1) B))else if l=[]then some (.error 13)else if 1000<=G.length then some (.error 5)else if fE (l.length - 1) (G.length+1)then some (.error 15)else
  exec P fuel (g+5) (.round (cO E X [dN p q])) b (S4 (((C.set ip l.dropLast).set iq (G ++ [l.getLast?.getD 0])) ++ [[0]]) V n (st+6) B):=by
 rw[Bp,S4.holds (by omega) (tX C (st+1) l G hC hl hG)]
 simp only[aI]
 by_cases h1:fX l.length G.length=true
 · simp[h1]
 · simp only[h1]
   have et:turned b [dN p q]=[dN p q]:=by cases b <;> rfl
   rw[et,fZ,YM b hM hx hp hkp hq hkq hl hG hne (by omega)]
   by_cases h2:l=[]
   · simp[h2,aI]
   · by_cases h3:1000<=G.length
     · simp[h2,h3,aI]
     · simp only[h2,h3,aI,if_false,kN]
       have hs:eO (λk=>k=ip\/k=iq) C (((C.set ip l.dropLast).set iq (G ++ [l.getLast?.getD 0])) ++ [[0]]):=(((eO.refl _ C).set (.inl rfl) _).set (.inr rfl) _).app _
       have i1:=gV hl
       have i2:=gV hG
       rw[S4.holds (by omega) (tE _ (st+1+4+1) l.dropLast (G ++ [l.getLast?.getD 0]) (hI _ _ hC hs) (eU (by rw[List.getElem?_set_ne (Ne.symm hne),List.getElem?_set_self i1])) (eU (by rw[List.getElem?_set_self (by simpa using i2)])))]
       simp only[List.length_dropLast,List.length_append,List.length_cons,List.length_nil,Nat.zero_add]
       by_cases h4:fE (l.length - 1) (G.length+1)=true
       · simp[h4]
       · simp[h4]
theorem BB:∀ (r:List Int) {C:List (List Int)} {st g:Nat} {G:List Int},I C->C[ip]? = some r.reverse->C[iq]? = some G->st+6 * r.length+6<=fuel->r.length+6<=g ->
 (match jr fX fE r G with
 |.ok (l',G')=>∃ C' st',exec P fuel g (.round (cO E X [dN p q])) b (S4 C V n st B)=some (.ok (S4 C' V n st' B))/\C'[ip]? = some l'/\C'[iq]? = some G'/\eO (λk=>k=ip\/k=iq) C C'/\st'<=st+6 * r.length+1
 |.error e=>exec P fuel g (.round (cO E X [dN p q])) b (S4 C V n st B)=some (.error e))
 | [],C,st,g,G,hC,hl,hG,hf,hg=>by
  obtain⟨g,rfl⟩:∃ k,g=k+6:=⟨g - 6,by omega⟩
  rw[L6 fX fE b hM hx hp hkp hq hkq hne I hI tX tE hC hl hG (by simp at hf;omega)]
  simp only[jr,List.reverse_nil,List.length_nil,if_true]
  by_cases h1:fX 0 G.length=true
  · simp only[h1,if_true]
    exact⟨C,st+1,rfl,hl,hG,eO.refl _ _,by omega⟩
  · simp[h1]
 |e :: r,C,st,g,G,hC,hl,hG,hf,hg=>by
  obtain⟨g,rfl⟩:∃ k,g=k+6:=⟨g - 6,by omega⟩
  simp only[List.length_cons]at hf hg
  rw[L6 fX fE b hM hx hp hkp hq hkq hne I hI tX tE hC hl hG (by omega)]
  have e1:(e :: r).reverse.length=r.length+1:=by simp
  have e2:(e :: r).reverse≠[]:=by simp
  have e3:(e :: r).reverse.dropLast=r.reverse:=by simp
  have e4:(e :: r).reverse.getLast?.getD 0=e:=by simp
  simp only[jr,e1,e2,e3,e4,if_false,Nat.add_sub_cancel]
  by_cases h1:fX (r.length+1) G.length=true
  · simp only[h1,if_true]
    exact⟨C,st+1,rfl,hl,hG,eO.refl _ _,by omega⟩
  · simp only[h1]
    by_cases h2:1000<=G.length
    · simp[h2]
    · simp only[h2]
      by_cases h3:fE r.length (G.length+1)=true
      · simp[h3]
      · simp only[h3]
        have hs:eO (λk=>k=ip\/k=iq) C (((C.set ip r.reverse).set iq (G ++ [e])) ++ [[0]]):=(((eO.refl _ C).set (.inl rfl) _).set (.inr rfl) _).app _
        have i1:=gV hl
        have i2:=gV hG
        have ih:=BB r (C:=((C.set ip r.reverse).set iq (G ++ [e])) ++ [[0]]) (st:=st+6) (g:=g+5) (G:=G ++ [e]) (hI _ _ hC hs) (eU (by rw[List.getElem?_set_ne (Ne.symm hne),List.getElem?_set_self i1])) (eU (by rw[List.getElem?_set_self (by simpa using i2)])) (by omega) (by omega)
        simp only[Bool.false_eq_true,if_false]
        cases hL:jr fX fE r (G ++ [e])with
        |error e=>rw[hL]at ih;exact ih
        |ok y =>
         obtain⟨l',G'⟩:=y
         rw[hL]at ih
         obtain⟨C',st',h5,h6,h7,h8,h9⟩:=ih
         exact⟨C',st',h5,h6,h7,hs.trans h8,by simp only[List.length_cons];omega⟩
end
def vS (s:ByteArray) (i:Nat):au × Nat:=(⟨s,3,0⟩,i)
def zU (A G:List Int):Except Int (List Int × List Int):=match jr (λs _=>s == 0) (λs _=>s == A.length) A.reverse G with
 |.error e => .error e
 |.ok (l,G')=>if 1000<=G'.length then .error 5 else .ok (l,G' ++ [(A.length:Int)])
def MN (A G:List Int):Except Int (List Int × List Int):=match G.reverse with
 | [] => .error 13
 |N :: r=>if A≠[]then .error 15 else match jr (λ_ d=>decide ((d:Int)=N)) (λ_ d=>d == 0) r []with
  |.error e => .error e
  |.ok (l,G')=>if N=(G'.length:Int)then .ok (G',l)else .error 16
theorem Np:E5 sA sG:=⟨by decide +kernel,by decide +kernel,by decide +kernel,by decide,by decide⟩
theorem Nq:E5 sA sT:=⟨by decide +kernel,by decide +kernel,by decide +kernel,by decide,by decide⟩
theorem jT {C:List (List Int)} {V:List (au × Nat)} {n st:Nat} {B:dQ} {x:ByteArray} {d:au} {i:Nat} {l:List Int} (hx:aJ (aX (aS x) (aC 0))=true) (hx2:aJ (aS x)=true) (h:bz V x=some (d,i)) (hl:C[i]? = some l):(S4 C V n st B).val (aX (aS x) (aC 0))=some (if(l.length == 0)=true then 1 else 0,0):=by
 rw[S4.eq hx (S4.size hx2 h hl) (S4.num (Int.le_refl 0))]
 congr 2
 by_cases h0:l.length=0 <;> simp[h0]
theorem Ia {C:List (List Int)} {V:List (au × Nat)} {n st:Nat} {B:dQ} {x y:ByteArray} {d d2:au} {i j:Nat} {l:List Int} {N:Int} (hx:aJ (aX (aS x) (bR y))=true) (hx2:aJ (aS x)=true) (hx3:aJ (bR y)=true) (h:bz V x=some (d,i)) (hl:C[i]? = some l) (h2:bz V y=some (d2,j)) (hN:C[j]? = some [N]):(S4 C V n st B).val (aX (aS x) (bR y))=some (if(l.length:Int)=N then 1 else 0,0):=by
 rw[S4.eq hx (S4.size hx2 h hl) (S4.var hx3 h2 hN)]
theorem rW:aJ (aX (aS sA) (aC 0))=true:=by decide +kernel
theorem Kh:aJ (aX (aS sA) (bR sN))=true:=by decide +kernel
theorem lJ:aJ (aS sA)=true:=by decide +kernel
theorem Ki:aJ (bR sN)=true:=by decide +kernel
theorem st1:aW (dK sN (aS sA) [cO (aX (aS sA) (bR sN)) (aX (aS sA) (aC 0)) [dN sA sG],psT sN sG] (aC 0))=true:=by decide +kernel
theorem st2:aW (cO (aX (aS sA) (bR sN)) (aX (aS sA) (aC 0)) [dN sA sG])=true:=by decide +kernel
theorem Sn:aW (psT sN sG)=true:=by decide +kernel
theorem uZ:((1:Int) != 0)=true:=by decide
theorem wZ:((0:Int) != 0)=false:=by decide
def tu (V:List (au × Nat)) (n st m:Nat) (B:dQ) (r:Option (Except Int ai)) (a:Except Int (List Int × List Int)):Prop:=match a with
 |.error e=>r=some (.error e)
 |.ok y=>∃ C' st',r=some (.ok (S4 C' V n st' B))/\C'[0]? = some y.1/\C'[1]? = some y.2/\st'<=st+m
set_option maxHeartbeats 1000000 in
theorem V6 {P:List bC} {C:List (List Int)} {n st fuel g:Nat} {B:dQ} {A G:List Int} (hA:C[0]? = some A) (hG:C[1]? = some G) (hf:st+6 * A.length+12<=fuel) (hg:A.length+20<=g) :
 tu [vS sA 0,vS sG 1] n st (6 * A.length+12) B (exec P fuel g (.stmts (turned false BL.kids)) false (S4 C [vS sA 0,vS sG 1] n st B)) (zU A G):=by
 obtain⟨g,rfl⟩:∃ k,g=k+5:=⟨g - 5,by omega⟩
 have h0:=gV hA
 have h1:=gV hG
 show tu _ _ _ _ _ (exec P fuel (g+5) (.stmts [dK sN (aS sA) [cO (aX (aS sA) (bR sN)) (aX (aS sA) (aC 0)) [dN sA sG],psT sN sG] (aC 0)]) false _) _
 rw[fZ,wR st1,S4.step (by omega)]
 simp only[aI,Bool.false_eq_true,if_false]
 rw[S4.value (S4.size lJ (d:=⟨sA,3,0⟩) (i:=0) rfl hA)]
 simp only
 rw[S4.open (by rfl)]
 simp only[if_true,turned,Bool.false_eq_true,if_false]
 rw[fZ,zJ st2]
 simp only[Bool.false_eq_true,if_false]
 have hN:(C ++ [[(A.length:Int)]])[C.length]? = some [(A.length:Int)]:=by rw[List.getElem?_append_right (Nat.le_refl _)];simp
 rw[S4.holds (by omega) (Ia Kh lJ Ki (d:=⟨sA,3,0⟩) (i:=0) rfl (eU hA) (d2:=⟨sN,1,0⟩) (j:=C.length) rfl hN)]
 simp only[if_true,uZ,aI]
 have L:=BB (P:=P) (V:=[vS sA 0,vS sG 1] ++ [(⟨sN,1,0⟩,C.length)]) (n:=n+1) (fuel:=fuel) (B:=B) (E:=aX (aS sA) (bR sN)) (X:=aX (aS sA) (aC 0)) (dp:=⟨sA,3,0⟩) (dq:=⟨sG,3,0⟩) (ip:=0) (iq:=1) (λs _=>s == 0) (λs _=>s == A.length) false Np (by rfl) (by rfl) rfl (by rfl) rfl (by omega)
  (λD=>C.length<D.length/\D[C.length]? = some [(A.length:Int)]) (λD D' h hs=>⟨Nat.lt_of_lt_of_le h.1 hs.1,(hs.2 _ h.1 (by omega)).trans h.2⟩)
  (λD st l G hD hl hG=>by
   rw[if_neg (by decide)]
   exact jT rW lJ (d:=⟨sA,3,0⟩) (i:=0) rfl hl)
  (λD st l G hD hl hG=>by
   rw[if_neg (by decide)]
   rw[Ia Kh lJ Ki (d:=⟨sA,3,0⟩) (i:=0) rfl hl (d2:=⟨sN,1,0⟩) (j:=C.length) rfl hD.2]
   congr 2
   by_cases h:l.length=A.length
   · simp[h]
   · have h2:¬ (l.length:Int)=A.length:=by omega
     rw[if_neg h2,if_neg (by simpa using h)])
  A.reverse (C:=C ++ [[(A.length:Int)]]) (st:=st+1+1) (g:=g+1) (G:=G) ⟨by simp,hN⟩ (by rw[List.reverse_reverse];exact eU hA) (eU hG) (by simp;omega) (by simp;omega)
 unfold zU
 cases hL:jr (λs _=>s == 0) (λs _=>s == A.length) A.reverse G with
 |error e =>
  rw[hL]at L
  simp only at L
  rw[L];rfl
 |ok y =>
  obtain⟨l,G'⟩:=y
  rw[hL]at L
  obtain⟨C',st',L1,L2,L3,L4,L5⟩:=L
  rw[L1]
  simp only[List.length_reverse]at L5
  have hn2:C'[C.length]? = some [(A.length:Int)]:=(L4.2 _ (by simp) (by omega)).trans hN
  simp only
  rw[fZ,uR Sn,S4.step (by omega)]
  simp only[aI,Bool.not_false]
  rw[S4.push (dn:=⟨sG,3,0⟩) (i:=1) (dp:=⟨sN,1,0⟩) (j:=C.length) (by rfl) rfl (by rfl) rfl L3 hn2 (by omega)]
  by_cases hF:1000<=G'.length
  · simp only[hF,if_true];rfl
  · simp only[hF,if_false,kN]
    rw[S4.step (by omega)]
    simp only[qM]
    have hc:=gV hn2
    rw[S4.close (x:=sN) (c:=0) (by rw[List.getElem?_set_self (by simpa using hc)])]
    simp only[if_true]
    exact⟨_,_,rfl,by rw[List.getElem?_set_ne (by omega),List.getElem?_set_ne (by omega)];exact L2,by rw[List.getElem?_set_ne (by omega),List.getElem?_set_self (gV L3)],by omega⟩
set_option maxHeartbeats 1000000 in
theorem aby {P:List bC} {C:List (List Int)} {n st fuel g:Nat} {B:dQ} {A G:List Int} (hA:C[0]? = some A) (hG:C[1]? = some G) (hf:st+6 * G.length+12<=fuel) (hg:G.length+20<=g) :
 tu [vS sA 0,vS sG 1] n st (6 * G.length+12) B (exec P fuel g (.stmts (turned true BL.kids)) true (S4 C [vS sA 0,vS sG 1] n st B)) (MN A G):=by
 obtain⟨g,rfl⟩:∃ k,g=k+5:=⟨g - 5,by omega⟩
 have h0:=gV hA
 have h1:=gV hG
 show tu _ _ _ _ _ (exec P fuel (g+5) (.stmts [dK sN (aS sA) [cO (aX (aS sA) (bR sN)) (aX (aS sA) (aC 0)) [dN sA sG],psT sN sG] (aC 0)]) true _) _
 rw[fZ,wR st1,S4.step (by omega)]
 simp only[aI,if_true,qM]
 rw[S4.open (by rfl)]
 simp only[if_true]
 rw[show turned true [cO (aX (aS sA) (bR sN)) (aX (aS sA) (aC 0)) [dN sA sG],psT sN sG]=[psT sN sG,cO (aX (aS sA) (bR sN)) (aX (aS sA) (aC 0)) [dN sA sG]]from rfl]
 have hN0:(C ++ [[(0:Int)]])[C.length]? = some [(0:Int)]:=by rw[List.getElem?_append_right (Nat.le_refl _)];simp
 rw[fZ,uR Sn,S4.step (by omega)]
 simp only[aI,Bool.not_true]
 rw[S4.pop (dn:=⟨sG,3,0⟩) (i:=1) (dp:=⟨sN,1,0⟩) (j:=C.length) (by rfl) rfl (by rfl) rfl (eU hG) hN0 (by omega)]
 unfold MN
 cases hr:G.reverse with
 |nil =>
  have:G=[]:=by simpa using hr
  simp only[this,if_true];rfl
 |cons N r =>
  have F7:G=r.reverse ++ [N]:=by rw[← List.reverse_reverse G,hr];simp
  have hGl:G.length=r.length+1:=by rw[F7];simp
  have e2:G≠[]:=by rw[F7];simp
  have e3:G.dropLast=r.reverse:=by rw[F7];simp
  have e4:G.getLast?.getD 0=N:=by rw[F7];simp
  simp only[e2,e3,e4,if_false,ne_eq,not_true_eq_false]
  rw[fZ,zJ st2]
  simp only[if_true]
  rw[S4.holds (by omega) (jT rW lJ (d:=⟨sA,3,0⟩) (i:=0) rfl (l:=A) (by rw[List.getElem?_set_ne (by omega),List.getElem?_set_ne (by omega)];exact eU hA))]
  by_cases oC:A=[]
  · have hA1:(A.length == 0)=true:=by rw[oC];rfl
    have hA2:¬ ¬ A=[]:=λh=>h oC
    simp only[hA1,hA2,if_true,uZ,aI,if_false]
    have hc:C.length<(((C ++ [[(0:Int)]]).set 1 r.reverse).set C.length [N]).length:=by simp
    have hN:(((C ++ [[(0:Int)]]).set 1 r.reverse).set C.length [N])[C.length]? = some [N]:=by rw[List.getElem?_set_self (by simp)]
    have L:=BB (P:=P) (V:=[vS sA 0,vS sG 1] ++ [(⟨sN,1,0⟩,C.length)]) (n:=n+1) (fuel:=fuel) (B:=B) (E:=aX (aS sA) (bR sN)) (X:=aX (aS sA) (aC 0)) (dp:=⟨sG,3,0⟩) (dq:=⟨sA,3,0⟩) (ip:=1) (iq:=0) (λ_ d=>decide ((d:Int)=N)) (λ_ d=>d == 0) true Np (by rfl) (by rfl) rfl (by rfl) rfl (by omega)
     (λD=>C.length<D.length/\D[C.length]? = some [N]) (λD D' h hs=>⟨Nat.lt_of_lt_of_le h.1 hs.1,(hs.2 _ h.1 (by omega)).trans h.2⟩)
     (λD st l G hD hl hG=>by
      rw[if_pos rfl,Ia Kh lJ Ki (d:=⟨sA,3,0⟩) (i:=0) rfl hG (d2:=⟨sN,1,0⟩) (j:=C.length) rfl hD.2]
      by_cases h:(G.length:Int)=N <;> simp[h])
     (λD st l G hD hl hG=>by
      rw[if_pos rfl]
      exact jT rW lJ (d:=⟨sA,3,0⟩) (i:=0) rfl hG)
     r (C:=(((C ++ [[(0:Int)]]).set 1 r.reverse).set C.length [N])) (st:=st+1+1+1) (g:=g) (G:=[]) ⟨hc,hN⟩ (by rw[List.getElem?_set_ne (by omega),List.getElem?_set_self (by simp;omega)]) (by rw[List.getElem?_set_ne (by omega),List.getElem?_set_ne (by omega),← oC];exact eU hA) (by omega) (by omega)
    cases hL:jr (λ_ d=>decide ((d:Int)=N)) (λ_ d=>d == 0) r []with
    |error e =>
     rw[hL]at L
     simp only at L
     rw[L];rfl
    |ok y =>
     obtain⟨l,G'⟩:=y
     rw[hL]at L
     obtain⟨C',st',L1,L2,L3,L4,L5⟩:=L
     rw[L1]
     have hn2:C'[C.length]? = some [N]:=(L4.2 _ hc (by omega)).trans hN
     simp only[kN]
     rw[S4.step (by omega)]
     simp only
     rw[S4.value (S4.size lJ (d:=⟨sA,3,0⟩) (i:=0) rfl L3)]
     simp only
     rw[S4.close (x:=sN) hn2]
     by_cases hq:N=(G'.length:Int)
     · simp only[hq,if_true]
       exact⟨_,_,rfl,L3,L2,by omega⟩
     · simp only[hq,if_false];rfl
  · have hA1:(A.length == 0)=false:=by simp[oC]
    simp only[hA1,oC,if_true,if_false,Bool.false_eq_true,wZ,aI,not_false_eq_true];rfl
theorem dS {C:List (List Int)} {i j:Nat} {l v:List Int} (h:j≠i) (hl:C[i]? = some l):(C.set j v)[i]? = some l:=by
 rw[List.getElem?_set_ne h];exact hl
theorem nE {C:List (List Int)} {j:Nat} {v:List Int} (h:j<C.length):(C.set j v)[j]? = some v:=by
 rw[List.getElem?_set_self h]
theorem uU (C:List (List Int)) (v:List Int):(C ++ [v])[C.length]? = some v:=by
 rw[List.getElem?_append_right (Nat.le_refl _)];simp
structure DN (it ib ia:Nat) (C C':List (List Int)) (t b a:List Int):Prop where
 t:C'[it]? = some t
 b:C'[ib]? = some b
 a:C'[ia]? = some a
 s:eO (λk=>k=it\/k=ib\/k=ia) C C'
def EG (V:List (au × Nat)) (n st m:Nat) (B:dQ) (it ib ia:Nat) (C:List (List Int)) (r:Option (Except Int ai)) (x:Except Int (List Int × List Int × List Int)):Prop:=match x with
 |.error e=>r=some (.error e)
 |.ok y=>∃ C' st',r=some (.ok (S4 C' V n st' B))/\DN it ib ia C C' y.1 y.2.1 y.2.2/\st'<=st+m
def IZ (t b a:List Int):Except Int (List Int × List Int × List Int):=if t=[]then .error 13 else if 1000<=b.length then .error 5 else if 1000<=a.length then .error 5 else .ok (t.dropLast,b ++ [t.getLast?.getD 0],a ++ [t.getLast?.getD 0])
def Ib (t b a:List Int):Except Int (List Int × List Int × List Int):=if a=[]then .error 13 else if b=[]then .error 13 else if b.getLast?.getD 0≠a.getLast?.getD 0 then .error 16 else if 1000<=t.length then .error 5 else .ok (t ++ [a.getLast?.getD 0],b.dropLast,a.dropLast)
theorem Sq:aW mV=true:=by decide +kernel
theorem Sr:aW (dK sY (bR sX) [psT sY sB] (aC 0))=true:=by decide +kernel
theorem Su:aW (fT sX sT)=true:=by decide +kernel
theorem Sv:aW (psT sY sB)=true:=by decide +kernel
theorem Sw:aW (psT sX sA)=true:=by decide +kernel
theorem Sy:aJ (bR sX)=true:=by decide +kernel
theorem oU {V:List (au × Nat)} {s n:ByteArray} {k:Int} {i:Nat} {u:Option (au × Nat)} (h:(s == n)=false) (hu:bz V n=u):bz (V ++ [(⟨s,k,0⟩,i)]) n=u:=by
 rw[Bo]
 simp only[h]
 exact hu
theorem uV {V:List (au × Nat)} {s:ByteArray} {i:Nat} : bz (V ++ [(⟨s,1,0⟩,i)]) s=some (⟨s,1,0⟩,i):=by
 rw[Bo];simp
section
variable {P:List bC} {V:List (au × Nat)} {n fuel:Nat} {B:dQ} {it ib ia:Nat} (ht:bz V sT=some (⟨sT,3,0⟩,it)) (hb:bz V sB=some (⟨sB,3,0⟩,ib)) (ha:bz V sA=some (⟨sA,3,0⟩,ia)) (hx:bz V sX=none) (hy:bz V sY=none) (h1:it≠ib) (h2:it≠ia) (h3:ib≠ia)
include ht hb ha hx hy h1 h2 h3
set_option maxHeartbeats 2000000 in
theorem X8 {C:List (List Int)} {st g:Nat} {t b a:List Int} (ct:C[it]? = some t) (cb:C[ib]? = some b) (ca:C[ia]? = some a) (hf:st+7<=fuel):EG V n st 7 B it ib ia C (exec P fuel (g+6) (.stmt mV) false (S4 C V n st B)) (IZ t b a):=by
 have lt:=gV ct
 have lb:=gV cb
 have la:=gV ca
 unfold mV IZ
 rw[wR Sq,S4.step (by omega)]
 simp only[aI,Bool.false_eq_true,if_false,qM]
 rw[S4.open hx]
 simp only[if_true,turned,Bool.false_eq_true,if_false]
 rw[fZ,Ep Su,S4.step (by omega)]
 simp only[aI]
 rw[S4.pop (oU (by decide) ht) rfl uV rfl (eU ct) (v:=0) (uU C _) (by omega)]
 by_cases hE:t=[]
 · simp only[hE,if_true];rfl
 simp only[hE,if_false,ne_eq,not_true_eq_false]
 generalize he:t.getLast?.getD 0=e
 generalize hC2:((C ++ [[(0:Int)]]).set it t.dropLast).set C.length [e]=C2
 have q1:C2.length=C.length+1:=by rw[← hC2];simp
 have qt:C2[it]? = some t.dropLast:=by rw[← hC2];exact dS (by omega) (nE (by simp;omega))
 have qb:C2[ib]? = some b:=by rw[← hC2];exact dS (by omega) (dS h1 (eU cb))
 have qa:C2[ia]? = some a:=by rw[← hC2];exact dS (by omega) (dS h2 (eU ca))
 have qx:C2[C.length]? = some [e]:=by rw[← hC2];exact nE (by simp)
 have qs:eO (λk=>k=it\/k=ib\/k=ia) C C2:=by
  rw[← hC2,List.set_append_left _ _ lt,List.set_append_right _ _ (by simp)]
  exact((eO.refl _ C).set (.inl rfl) _).app _
 clear hC2
 rw[fZ,wR Sr,S4.step (by omega)]
 simp only[aI,Bool.false_eq_true,if_false]
 rw[S4.value (S4.var Sy uV qx)]
 simp only
 rw[S4.open (oU (by decide) hy)]
 simp only[if_true,turned,Bool.false_eq_true,if_false]
 rw[fZ,uR Sv,S4.step (by omega)]
 simp only[aI,Bool.not_false]
 rw[S4.push (oU (by decide) (oU (by decide) hb)) rfl uV rfl (eU qb) (uU C2 _) (by omega)]
 by_cases hF:1000<=b.length
 · simp only[hF,if_true];rfl
 simp only[hF,if_false,kN]
 rw[S4.step (by omega)]
 simp only[qM]
 generalize ky:((C2 ++ [[e]]).set ib (b ++ [e])).set C2.length [0]=C3
 have r1:C3.length=C.length+2:=by rw[← ky];simp;omega
 have rt:C3[it]? = some t.dropLast:=by rw[← ky];exact dS (by omega) (dS (Ne.symm h1) (eU qt))
 have rb:C3[ib]? = some (b ++ [e]):=by rw[← ky];exact dS (by omega) (nE (by simp;omega))
 have ra:C3[ia]? = some a:=by rw[← ky];exact dS (by omega) (dS h3 (eU qa))
 have rx:C3[C.length]? = some [e]:=by rw[← ky];exact dS (by omega) (dS (by omega) (eU qx))
 have ry:C3[C2.length]? = some [0]:=by rw[← ky];exact nE (by simp)
 have rs:eO (λk=>k=it\/k=ib\/k=ia) C C3:=by
  rw[← ky,List.set_append_left _ _ (by omega),List.set_append_right _ _ (by simp)]
  exact(qs.set (.inr (.inl rfl)) _).app _
 clear ky
 rw[S4.close ry]
 simp only[if_true]
 rw[fZ,uR Sw,S4.step (by omega)]
 simp only[aI,Bool.not_false]
 rw[S4.push (oU (by decide) ha) rfl uV rfl ra rx (by omega)]
 by_cases hF2:1000<=a.length
 · simp only[hF2,if_true];rfl
 simp only[hF2,if_false,kN]
 rw[S4.step (by omega)]
 simp only[qM]
 rw[S4.close (x:=sX) (c:=0) (nE (by simp;omega))]
 simp only[if_true]
 have Kj:eO (λk=>k=it\/k=ib\/k=ia) C ((C3.set ia (a ++ [e])).set C.length [0]):=by
  have h5:=rs.set (i:=ia) (.inr (.inr rfl)) (a ++ [e])
  exact⟨by simpa using h5.1,λk hk hn=>by rw[List.getElem?_set_ne (by omega)];exact h5.2 k hk hn⟩
 exact⟨_,_,rfl,⟨dS (by omega) (dS (Ne.symm h2) rt),dS (by omega) (dS (Ne.symm h3) rb),dS (by omega) (nE (by omega)),Kj⟩,by omega⟩
set_option maxHeartbeats 2000000 in
theorem V7 {C:List (List Int)} {st g:Nat} {t b a:List Int} (ct:C[it]? = some t) (cb:C[ib]? = some b) (ca:C[ia]? = some a) (hf:st+7<=fuel):EG V n st 7 B it ib ia C (exec P fuel (g+6) (.stmt mV) true (S4 C V n st B)) (Ib t b a):=by
 have lt:=gV ct
 have lb:=gV cb
 have la:=gV ca
 unfold mV Ib
 rw[wR Sq,S4.step (by omega)]
 simp only[aI,if_true,qM]
 rw[S4.open hx]
 simp only[if_true]
 rw[show turned true [fT sX sT,dK sY (bR sX) [psT sY sB] (aC 0),psT sX sA]=[psT sX sA,dK sY (bR sX) [psT sY sB] (aC 0),fT sX sT]from rfl]
 rw[fZ,uR Sw,S4.step (by omega)]
 simp only[aI,Bool.not_true]
 rw[S4.pop (oU (by decide) ha) rfl uV rfl (eU ca) (v:=0) (uU C _) (by omega)]
 by_cases hE:a=[]
 · simp only[hE,if_true];rfl
 simp only[hE,if_false,ne_eq,not_true_eq_false]
 generalize he:a.getLast?.getD 0=e
 generalize hC2:((C ++ [[(0:Int)]]).set ia a.dropLast).set C.length [e]=C2
 have q1:C2.length=C.length+1:=by rw[← hC2];simp
 have qt:C2[it]? = some t:=by rw[← hC2];exact dS (by omega) (dS (Ne.symm h2) (eU ct))
 have qb:C2[ib]? = some b:=by rw[← hC2];exact dS (by omega) (dS (Ne.symm h3) (eU cb))
 have qa:C2[ia]? = some a.dropLast:=by rw[← hC2];exact dS (by omega) (nE (by simp;omega))
 have qx:C2[C.length]? = some [e]:=by rw[← hC2];exact nE (by simp)
 have qs:eO (λk=>k=it\/k=ib\/k=ia) C C2:=by
  rw[← hC2,List.set_append_left _ _ la,List.set_append_right _ _ (by simp)]
  exact((eO.refl _ C).set (.inr (.inr rfl)) _).app _
 clear hC2
 rw[fZ,wR Sr,S4.step (by omega)]
 simp only[aI,if_true,qM]
 rw[S4.open (oU (by decide) hy)]
 simp only[if_true]
 rw[show turned true [psT sY sB]=[psT sY sB]from rfl]
 rw[fZ,uR Sv,S4.step (by omega)]
 simp only[aI,Bool.not_true]
 rw[S4.pop (oU (by decide) (oU (by decide) hb)) rfl uV rfl (eU qb) (v:=0) (uU C2 _) (by omega)]
 by_cases hF:b=[]
 · simp only[hF,if_true];rfl
 simp only[hF,if_false,ne_eq,not_true_eq_false,kN]
 rw[S4.step (by omega)]
 simp only
 generalize hfl:b.getLast?.getD 0=f
 generalize ky:((C2 ++ [[(0:Int)]]).set ib b.dropLast).set C2.length [f]=C3
 have r1:C3.length=C.length+2:=by rw[← ky];simp;omega
 have rt:C3[it]? = some t:=by rw[← ky];exact dS (by omega) (dS (Ne.symm h1) (eU qt))
 have rb:C3[ib]? = some b.dropLast:=by rw[← ky];exact dS (by omega) (nE (by simp;omega))
 have ra:C3[ia]? = some a.dropLast:=by rw[← ky];exact dS (by omega) (dS h3 (eU qa))
 have rx:C3[C.length]? = some [e]:=by rw[← ky];exact dS (by omega) (dS (by omega) (eU qx))
 have ry:C3[C2.length]? = some [f]:=by rw[← ky];exact nE (by simp)
 have rs:eO (λk=>k=it\/k=ib\/k=ia) C C3:=by
  rw[← ky,List.set_append_left _ _ (by omega),List.set_append_right _ _ (by simp)]
  exact(qs.set (.inr (.inl rfl)) _).app _
 clear ky
 rw[S4.value (S4.var Sy (oU (by decide) uV) rx)]
 simp only
 rw[S4.close ry]
 by_cases hfe:f=e
 · simp only[hfe,if_true,not_true_eq_false,if_false]
   rw[fZ,Ep Su,S4.step (by omega)]
   simp only[aI]
   rw[S4.push (oU (by decide) ht) rfl uV rfl rt rx (by omega)]
   by_cases hF2:1000<=t.length
   · simp only[hF2,if_true];rfl
   simp only[hF2,if_false,kN]
   rw[S4.step (by omega)]
   simp only[qM]
   rw[S4.close (x:=sX) (c:=0) (nE (by simp;omega))]
   simp only[if_true]
   have Kj:eO (λk=>k=it\/k=ib\/k=ia) C ((C3.set it (t ++ [e])).set C.length [0]):=by
    have h5:=rs.set (i:=it) (.inl rfl) (t ++ [e])
    exact⟨by simpa using h5.1,λk hk hn=>by rw[List.getElem?_set_ne (by omega)];exact h5.2 k hk hn⟩
   exact⟨_,_,rfl,⟨dS (by omega) (nE (by omega)),dS (by omega) (dS h1 rb),dS (by omega) (dS h2 ra),Kj⟩,by omega⟩
 · simp only[hfe,if_false,not_false_eq_true,if_true];rfl
end
end Go.Proofs.YtbpodipdfohikaaGreat
