import Derived.Test.YtnobahchcongnaaGreatDoorR33
import Derived.Test.YtnobahchcongnaaGreatDoorR34
import Derived.Test.YtnobahchcongnaaGreatDoorR32
set_option linter.unusedSimpArgs false
set_option linter.unusedVariables false
set_option maxRecDepth 100000
set_option maxHeartbeats 25600000
namespace Go.Proofs.YtnobahchcongnaaGreatDoor
open Go.RowKit Go.Instr
theorem tC (ps:List (Tree->Bool)) (l:List Tree) (h:bI ps l=true):l.length=ps.length:=by
 rcases Nat.decEq ps.length l.length with e|e
 · rw[KA ps l e]at h;cases h
 · exact e.symm
theorem zY (ps:List (Tree->Bool)) (l:List Tree) (h:bI ps l=true) (i:Nat) (h1:i<ps.length) (h2:i<l.length):ps[i] l[i]=true:=by
 rcases hb:ps[i] l[i]with _|_
 · rw[Kb ps l i h1 h2 hb]at h;cases h
 · rfl
theorem Dj:∀ (l:List Int),nT l=0->∀ i (h:i<l.length),l[i]=0
 |a :: l,h,i,hi=>by
  simp only[nT]at h;by_cases ha:a=0
  · rw[if_neg (by simpa using ha)]at h;cases i with
    |zero=>exact ha
    |succ i=>exact Dj l h i (by simpa using hi)
  · rw[if_pos ha]at h;exact absurd h ha
def pX (m:Nat) (f:ax):Prop:=(0<=f.cells/\f.cells<=16 * m)/\(0<=f.stacks/\f.stacks<=m)/\∀ s∈f.slots,(0<=s.len/\s.len<=16)/\0<=s.at'/\s.at'<=16 * m
theorem Kr (f:ax) (v:bu) (m:Nat) (h:pX m f) (hv:v.okB=true):pX (m+1) (lH f v):=by
 obtain⟨hc,hs,hsl⟩:=h;obtain⟨n,k,ln⟩:=v;have hl:0<=ln/\ln<=16:=by
  simp only[bu.okB,ui]at hv;split at hv
  · have:ln=0:=by simpa using hv
    omega
  · split at hv
    · simp at hv;omega
    · cases hv
 have hold:∀ s∈f.slots,(0<=s.len/\s.len<=16)/\0<=s.at'/\s.at'<=16 * ((m+1:Nat):Int):=λs hs'=>by
  have:=hsl s hs';omega
 unfold lH;split
 · refine⟨by simp only[];omega,by simp only[];omega,λs hs' => ?_⟩;rcases List.mem_append.1 hs' with h|h
   · exact hold s h
   · rw[List.mem_singleton.1 h];simp only[];omega
 · split
   · refine⟨by simp only[];omega,by simp only[];omega,λs hs' => ?_⟩;rcases List.mem_append.1 hs' with h|h
     · exact hold s h
     · rw[List.mem_singleton.1 h];simp only[];omega
   · refine⟨by simp only[];omega,by simp only[];omega,λs hs' => ?_⟩;rcases List.mem_append.1 hs' with h|h
     · exact hold s h
     · rw[List.mem_singleton.1 h];simp only[];omega
theorem Ki:∀ (l:List bu) (f:ax) (m:Nat),pX m f->l.all bu.okB=true->pX (m+l.length) (l.foldl lH f)
 | [],f,m,h,_=>h
 |v :: l,f,m,h,ha=>by
  simp only[List.all_cons,Bool.and_eq_true]at ha;have:=Ki l (lH f v) (m+1) (Kr f v m h ha.1) ha.2;rw[show m+(v :: l).length=m+1+l.length from by rw[List.length_cons];omega];exact this
theorem ZB (l:List bu) (h:jf l=0):jY l=true:=by
 unfold jf at h;split at h
 · assumption
 · cases h
theorem GN (l:List bu) (h:jf l=0):pX 32 (frameC l):=by
 have hv:=ZB l h;simp only[jY,Bool.and_eq_true,decide_eq_true_eq]at hv;have:=Ki l iK 0 ⟨by simp[iK],by simp[iK],by simp[iK]⟩ hv.2;obtain⟨h1,h2,h3⟩:=this;refine⟨by unfold frameC;omega,by unfold frameC;omega,λs hs => ?_⟩;have:=h3 s hs;omega
structure BD (f:ax):Prop where
 c0:0<=f.cells
 c1:f.cells<=1000
 s0:0<=f.stacks
 s1:f.stacks<=1000
 a:∀ s k,0<=aj f s k/\aj f s k<=100000
def pY (procs:List ak):Prop:=∀ p∈procs,jf p.params=0
theorem pY.find {procs:List ak} (h:pY procs) (s:ByteArray):jf ((eQ procs s).getD gU).params=0:=by
 rcases hf:eQ procs s with _|p
 · simp[gU,jf,jY,vC]
 · exact h p (List.mem_of_find?_eq_some hf)
theorem pY.pr {procs:List ak} (h:pY procs):Cz (procs.map ak.d):=λs x hx=>by
 rw[Dg]at hx;exact((GN _ (h.find s)).2.2 x hx).1.2
theorem pY.arg {procs:List ak} (h:pY procs) {f:ax} (hf:BD f) (s:ByteArray):L6 f ((eQ procs s).getD gU).params :=
 ⟨h.find s,⟨hf.c0,hf.c1⟩,⟨hf.s0,hf.s1⟩,hf.a,λx hx=>by have:=(GN _ (h.find s)).2.2 x hx;omega⟩
theorem y8.of (f:ax) (procs:List bQ) (t:Tree) (he:dJ t=true) (hn:dz f procs t=true) (hs:aI t<=2000):y8 f t:=by
 obtain⟨k,n,s,l⟩:=t;simp only[dJ,Bool.and_eq_true,Bool.or_eq_true,beq_iff_eq,Tree.kind]at he;rcases he.1 with rfl|rfl
 · exact .inl rfl
 · have h2:=he.2;simp only[aN,show ¬ ((3:Int)=1) by decide,show ¬ ((3:Int)=2\/(3:Int)=4\/(3:Int)=5) by decide,if_false,if_true,Bool.and_eq_true,beq_iff_eq]at h2;obtain⟨-,hl,ha⟩:=h2
   match l,hl with
   | [t],_ =>
    simp only[jv,Bool.and_true]at ha;simp only[dz,show ¬ ((3:Int)=2\/(3:Int)=54) by decide,if_false,if_true,mM,Bool.and_true,Bool.and_eq_true,Bool.or_eq_true]at hn;have h57:(t.kind == 57)=false:=by
     obtain⟨k',n',s',l'⟩:=t;rcases hb:(Tree.mk k' n' s' l').kind == 57 with _|_
     · rfl
     · have:k'=57:=by simpa[Tree.kind]using hb
       subst this;simp[aN]at ha
    rw[h57]at hn;refine .inr ⟨rfl,by simp[Tree.kids],?_⟩;simp only[aI,cu]at hs;exact nE.of f procs t ha (hn.2.elim (λe=>by cases e) id) (by omega)
theorem aba (t:Tree) (h:dJ t=true):(t.kind == 57)=false:=by
 simp only[dJ,Bool.and_eq_true,Bool.or_eq_true,beq_iff_eq]at h;rcases h.1 with e|e <;> rw[e] <;> rfl
theorem abb (t:Tree) (h:aN t=true):(t.kind == 57)=false:=by
 obtain⟨k,n,s,l⟩:=t;rcases hb:(Tree.mk k n s l).kind == 57 with _|_
 · rfl
 · have:k=57:=by simpa[Tree.kind]using hb
   subst this;simp[aN]at h
theorem X0 (f:ax) (procs:List bQ) (l:List Tree) (h:mM f procs l=true) (i:Nat) (hi:i<l.length) (hk:(l[i].kind == 57)=false):dz f procs l[i]=true:=by
 rw[zU]at h;have:=List.all_eq_true.1 h l[i] (List.getElem_mem hi);rw[hk]at this
 simpa using this
theorem abd (t:Tree) (h:bF t=true):t.kind=57:=by
 obtain⟨k,n,s,l⟩:=t;simp only[bF,Bool.and_eq_true,beq_iff_eq]at h;exact h.1
theorem vD (l:List Tree) (i:Nat) (h:(jC l).getD i false=true):∃ hi:i<l.length,bF l[i]=true:=by
 rw[Hg,List.getD_eq_getElem?_getD]at h;by_cases hi:i<l.length
 · refine⟨hi,?_⟩;rw[List.getElem?_eq_getElem (by simpa using hi),List.getElem_map]at h;exact h
 · rw[List.getElem?_eq_none (by simpa using hi)]at h;cases h
theorem Qc (f:ax) (procs:List bQ) (l:List Tree) (i:Nat) (h:i<l.length):(eY f procs l).getD i cB=aQ f procs l[i]:=by
 rw[Yt,List.getD_eq_getElem?_getD,List.getElem?_eq_getElem (by simpa using h),List.getElem_map];rfl
theorem _H (f:ax) (procs:List bQ) (l:List Tree) (h:nT (Cj f procs l)=0) (i:Nat) (hi:i<l.length) (hb:bF l[i]=true):fw f procs l[i]=0:=by
 have:=Dj _ h i (by rw[GJ];simpa using hi);simp only[GJ,List.getElem_map,abd _ hb,if_true]at this;exact this
theorem abZ (l:List ae) (i:Nat) (h:i<l.length):(ae.ts l).getD i dx=l[i].t:=by
 rw[List.getD_eq_getElem?_getD,List.getElem?_eq_getElem (by rw[ae.cz];exact h),ae.gW l i h];rfl
def KN (G:Nat) (sv pv:Value) (f:ax) (procs:List ak) (m:Nat):Prop:=∀ (x:ae),SizeOf.sizeOf x<=m->∀ w:World,gX w G sv pv f procs->aR w x->bq x.t=true->iM f (procs.map ak.d) x.t=0->aI x.t<=80->Calls Tryz.prog 46 #[.pointer (some ⟨G,0,none⟩),x.val] w (bP w (dX f (procs.map ak.d) x.t))
def Kt (G:Nat) (sv pv:Value) (f:ax) (procs:List ak) (m:Nat):Prop:=∀ (x:ae),SizeOf.sizeOf x<=m->∀ w:World,gX w G sv pv f procs->aR w x->bF x.t=true->fw f (procs.map ak.d) x.t=0->aI x.t<=80->Calls Tryz.prog 22 #[.pointer (some ⟨G,0,none⟩),x.val] w (bP w (aQ f (procs.map ak.d) x.t))
theorem X3 (G:Nat) (sv pv:Value) (f:ax) (procs:List ak) (hpo:pY procs) (m:Nat) (ih:KN G sv pv f procs m):Kt G sv pv f procs (m+1):=by
 intro x hm w hg hx hb hu hs;obtain⟨k,n,s,kv,l⟩:=x;have hsub:∀ (i:Nat) (hi:i<l.length),SizeOf.sizeOf l[i]<=m:=λi hi=>by
  have:=ng (k:=k) (n:=n) (s:=s) (kv:=kv) (List.getElem_mem hi);omega
 have hu':nT ((ae.ts l).map (iM f (procs.map ak.d)))=0:=by
  rw[ae.t,fw,Kl]at hu;exact hu
 have ha:wO (ae.ts l)=true:=by
  rw[ae.t,bF]at hb;simp only[Bool.and_eq_true]at hb;exact hb.2.2
 rw[BP]at ha;have hsz:1+cu (ae.ts l)<=80:=by rw[ae.t,aI]at hs;exact hs
 have hln:=Gc (ae.ts l);rw[ae.cz]at hln;have hcl:=KM f (procs.map ak.d) hpo.pr (ae.ts l);rw[GA]at hcl;refine YL w G sv pv f procs hg k n s kv l hx (λi hi z hz => ?_) (by omega);have hti:=ae.gW l i hi;refine ih l[i] (hsub i hi) z (hg.later hz) ((hx.row.2.2.2.2 _ (List.getElem_mem hi)).later hz) ?_ ?_ ?_
 · have:=List.all_eq_true.1 ha ((ae.ts l)[i]'(by rw[ae.cz];exact hi)) (List.getElem_mem _);rwa[hti]at this
 · have:=Dj _ hu' i (by rw[List.length_map,ae.cz];exact hi);rwa[List.getElem_map,hti]at this
 · have:=vg (ae.ts l) i (by rw[ae.cz];exact hi);rw[hti]at this;omega
theorem YR (hof:vO) (G:Nat) (sv pv:Value) (f:ax) (procs:List ak) (hf:BD f) (hpo:pY procs) (m:Nat) (ih:Kt G sv pv f procs m):KN G sv pv f procs (m+1):=by
 intro x hm w hg hx hb hu hs;obtain⟨k,n,s,kv,l⟩:=x;have hsub:∀ (i:Nat) (hi:i<l.length),SizeOf.sizeOf l[i]<=m:=λi hi=>by
  have:=ng (k:=k) (n:=n) (s:=s) (kv:=kv) (List.getElem_mem hi);omega
 have hti:=ae.gW l;have htl:=ae.cz l;have hsz:1+cu (ae.ts l)<=80:=by rw[ae.t,aI]at hs;exact hs
 have hsi:∀ (i:Nat) (hi:i<l.length),aI l[i].t<=80:=λi hi=>by
  have:=vg (ae.ts l) i (by rw[htl];exact hi);rw[hti i hi]at this;omega
 have hxi:∀ (i:Nat) (hi:i<l.length) (z:World),Grow w z->aR z l[i]:=λi hi z hz=>(hx.row.2.2.2.2 _ (List.getElem_mem hi)).later hz;rw[ae.t]at hb hu;rw[bq]at hb;rw[iM]at hu;have ab0:k≠56:=by intro e;subst e;simp at hu
 rw[if_neg ab0]at hu;have hnm:dz f (procs.map ak.d) (.mk k n s (ae.ts l))=true:=by
  rcases hq:dz f (procs.map ak.d) (.mk k n s (ae.ts l))with _|_
  · rw[if_pos hq]at hu;cases hu
  · rfl
 rw[if_neg (by rw[hnm];decide)]at hu;have hal:k≠50->k≠51->mM f (procs.map ak.d) (ae.ts l)=true:=λh50 lh=>by
  rw[dz]at hnm
  repeat' split at hnm
  all_goals first
   |(simp only[Bool.and_eq_true]at hnm;exact hnm.2)
   |exact hnm
   |omega
 have hnk:∀ (h50:k≠50) (lh:k≠51) (i:Nat) (hi:i<l.length),(l[i].t.kind == 57)=false->dz f (procs.map ak.d) l[i].t=true:=λh50 lh i hi h57=>by
  have:=X0 f (procs.map ak.d) (ae.ts l) (hal h50 lh) i (by rw[htl];exact hi) (by rw[hti i hi];exact h57);rwa[hti i hi]at this
 have hpl:∀ (h50:k≠50) (lh:k≠51) (i:Nat) (hi:i<l.length),dJ l[i].t=true->y8 f l[i].t:=λh50 lh i hi hp =>
  y8.of f (procs.map ak.d) _ hp (hnk h50 lh i hi (aba _ hp)) (by have:=hsi i hi;omega)
 have hex:∀ (h50:k≠50) (lh:k≠51) (i:Nat) (hi:i<l.length),aN l[i].t=true->nE f l[i].t:=λh50 lh i hi hp =>
  nE.of f (procs.map ak.d) _ hp (hnk h50 lh i hi (abb _ hp)) (by have:=hsi i hi;omega)
 have hbk:∀ (h50:k≠50) (lh:k≠51) (i:Nat) (hi:i<l.length),bF l[i].t=true->∀ z,Grow w z->Calls Tryz.prog 22 #[.pointer (some ⟨G,0,none⟩),(l[i]).val] z (bP z (aQ f (procs.map ak.d) (l[i]).t)):=λh50 lh i hi hp z hz =>
  ih l[i] (hsub i hi) z (hg.later hz) (hxi i hi z hz) hp (by
   rw[if_neg (by omega)]at hu;have:=_H f (procs.map ak.d) (ae.ts l) hu i (by rw[htl];exact hi) (by rw[hti i hi];exact hp);rwa[hti i hi]at this) (hsi i hi)
 have hbl:∀ (i:Nat) (hi:i<l.length),(aQ f (procs.map ak.d) l[i].t).code.length<=800 * mJ (ae.ts l) i/\(aQ f (procs.map ak.d) l[i].t).refs.length<=mJ (ae.ts l) i:=λi hi=>by
  have:=Kn f (procs.map ak.d) hpo.pr (ae.ts l) i;rwa[Qc _ _ _ _ (by rw[htl];exact hi),hti i hi]at this
 have hsd:=RL (ae.ts l);have hkb:∀ (ps:List (Tree->Bool)),bI ps (ae.ts l)=true->l.length=ps.length/\∀ (i:Nat) (h1:i<ps.length) (h2:i<l.length),ps[i] l[i].t=true:=λps h=>by
  refine⟨by rw[← htl];exact tC _ _ h,λi h1 h2 => ?_⟩;have:=zY _ _ h i h1 (by rw[htl];exact h2);rwa[hti i h2]at this
 have hgt:=abZ l;have hbC:∀ (i:Nat) (hi:i<l.length),(eY f (procs.map ak.d) (ae.ts l)).getD i cB=aQ f (procs.map ak.d) l[i].t:=λi hi=>by
  rw[Qc _ _ _ _ (by rw[htl];exact hi),hti i hi]
 have hST:dX f (procs.map ak.d) (ae.t (.mk k n s kv l))=dX f (procs.map ak.d) (.mk k n s (ae.ts l)):=by rw[ae.t]
 rw[hST];by_cases uz:k=40
 · subst uz;simp only[true_or,or_true,if_true,Bool.and_eq_true]at hb;obtain⟨hl,hq⟩:=hkb _ hb.2;simp only[List.length_cons,List.length_nil]at hl;have q0:=hq 0 (by simp) (by omega);have q1:=hq 1 (by simp) (by omega);have hE:dX f (procs.map ak.d) (.mk 40 n s (ae.ts l))=kU f (l[0]'(by omega)).t (l[1]'(by omega)).t 1:=by
    rw[eD];simp only[hgt 0 (by omega),hgt 1 (by omega)];rfl
   rw[hE];refine _o w G n s kv l hx _ (λz hz => ?_);have:=K5 z G sv pv f procs (hg.later hz) (.mk 40 n s kv l) 1 (hx.later hz) (by show 1<(ae.ts l).length;rw[htl];omega) (by rw[iQ 0 (by omega)];exact hpl (by decide) (by decide) 0 (by omega) q0) (by rw[iQ 1 (by omega)];exact hex (by decide) (by decide) 1 (by omega) q1) hf.c0 hf.c1;rwa[iQ 0 (by omega),iQ 1 (by omega)]at this
 by_cases uA:k=41
 · subst uA;simp only[true_or,or_true,if_true,Bool.and_eq_true]at hb;obtain⟨hl,hq⟩:=hkb _ hb.2;simp only[List.length_cons,List.length_nil]at hl;have q0:=hq 0 (by simp) (by omega);have q1:=hq 1 (by simp) (by omega);have hE:dX f (procs.map ak.d) (.mk 41 n s (ae.ts l))=kU f (l[0]'(by omega)).t (l[1]'(by omega)).t 2:=by
    rw[eD];simp only[hgt 0 (by omega),hgt 1 (by omega)];rfl
   rw[hE];refine _q w G n s kv l hx _ (λz hz => ?_);have:=K5 z G sv pv f procs (hg.later hz) (.mk 41 n s kv l) 2 (hx.later hz) (by show 1<(ae.ts l).length;rw[htl];omega) (by rw[iQ 0 (by omega)];exact hpl (by decide) (by decide) 0 (by omega) q0) (by rw[iQ 1 (by omega)];exact hex (by decide) (by decide) 1 (by omega) q1) hf.c0 hf.c1;rwa[iQ 0 (by omega),iQ 1 (by omega)]at this
 by_cases uB:k=42
 · subst uB;simp only[true_or,or_true,if_true,Bool.and_eq_true]at hb;obtain⟨hl,hq⟩:=hkb _ hb.2;simp only[List.length_cons,List.length_nil]at hl;have q0:=hq 0 (by simp) (by omega);have q1:=hq 1 (by simp) (by omega);have hE:dX f (procs.map ak.d) (.mk 42 n s (ae.ts l))=kU f (l[0]'(by omega)).t (l[1]'(by omega)).t 3:=by
    rw[eD];simp only[hgt 0 (by omega),hgt 1 (by omega)];rfl
   rw[hE];refine _t w G n s kv l hx _ (λz hz => ?_);have:=K5 z G sv pv f procs (hg.later hz) (.mk 42 n s kv l) 3 (hx.later hz) (by show 1<(ae.ts l).length;rw[htl];omega) (by rw[iQ 0 (by omega)];exact hpl (by decide) (by decide) 0 (by omega) q0) (by rw[iQ 1 (by omega)];exact hex (by decide) (by decide) 1 (by omega) q1) hf.c0 hf.c1;rwa[iQ 0 (by omega),iQ 1 (by omega)]at this
 by_cases h43:k=43
 · subst h43;simp only[show ¬ ((43:Int)=40\/(43:Int)=41\/(43:Int)=42\/(43:Int)=56) by decide,if_false,if_true,Bool.and_eq_true]at hb;obtain⟨hl,hq⟩:=hkb _ hb.2;simp only[List.length_cons,List.length_nil]at hl;have q0:=hq 0 (by simp) (by omega);have q1:=hq 1 (by simp) (by omega);have hE:dX f (procs.map ak.d) (.mk 43 n s (ae.ts l))=jB f (l[0]'(by omega)).t (l[1]'(by omega)).t:=by
    rw[eD];simp only[hgt 0 (by omega),hgt 1 (by omega)];rfl
   rw[hE];exact _A w G n s kv l hx (by omega) _ (λz hz=>Zw z G sv pv f procs (hg.later hz) _ _ (hxi 0 (by omega) z hz) (hxi 1 (by omega) z hz) (hpl (by decide) (by decide) 0 (by omega) q0) (hpl (by decide) (by decide) 1 (by omega) q1) hf.c0 hf.c1)
 by_cases oq:k=44
 · subst oq;simp only[show ¬ ((44:Int)=40\/(44:Int)=41\/(44:Int)=42\/(44:Int)=56) by decide,show ¬ ((44:Int)=43) by decide,true_or,or_true,if_false,if_true,Bool.and_eq_true]at hb;obtain⟨hl,hq⟩:=hkb _ hb.2;simp only[List.length_cons,List.length_nil]at hl;have q0:=hq 0 (by simp) (by omega);have hE:dX f (procs.map ak.d) (.mk 44 n s (ae.ts l))=moveC f (l[0]'(by omega)).t ⟨12,5,aj f s 3,0,0⟩:=by
    rw[eD];simp only[hgt 0 (by omega)];rfl
   rw[hE];exact _B w G sv pv f procs hg n s kv l hx (by omega) _ (λz hz=>BU z G sv pv f procs (hg.later hz) _ ⟨12,5,aj f s 3,0,0⟩ (hxi 0 (by omega) z hz) (hpl (by decide) (by decide) 0 (by omega) q0) hf.c0 hf.c1)
 by_cases h45:k=45
 · subst h45;simp only[show ¬ ((45:Int)=40\/(45:Int)=41\/(45:Int)=42\/(45:Int)=56) by decide,show ¬ ((45:Int)=43) by decide,true_or,or_true,if_false,if_true,Bool.and_eq_true]at hb;obtain⟨hl,hq⟩:=hkb _ hb.2;simp only[List.length_cons,List.length_nil]at hl;have q0:=hq 0 (by simp) (by omega);have hE:dX f (procs.map ak.d) (.mk 45 n s (ae.ts l))=moveC f (l[0]'(by omega)).t ⟨13,5,aj f s 3,0,0⟩:=by
    rw[eD];simp only[hgt 0 (by omega)];rfl
   rw[hE];exact _C w G sv pv f procs hg n s kv l hx (by omega) _ (λz hz=>BU z G sv pv f procs (hg.later hz) _ ⟨13,5,aj f s 3,0,0⟩ (hxi 0 (by omega) z hz) (hpl (by decide) (by decide) 0 (by omega) q0) hf.c0 hf.c1)
 by_cases h46:k=46
 · subst h46;simp only[show ¬ ((46:Int)=40\/(46:Int)=41\/(46:Int)=42\/(46:Int)=56) by decide,show ¬ ((46:Int)=43) by decide,show ¬ ((46:Int)=44\/(46:Int)=45) by decide,true_or,or_true,if_false,if_true,Bool.and_eq_true]at hb;obtain⟨hl,hq⟩:=hkb _ hb.2;simp only[List.length_cons,List.length_nil]at hl;have q0:=hq 0 (by simp) (by omega);have hE:dX f (procs.map ak.d) (.mk 46 n s (ae.ts l))=moveC f (l[0]'(by omega)).t ⟨17,5,0,0,0⟩:=by
    rw[eD];simp only[hgt 0 (by omega)];rfl
   rw[hE];exact _D w G n s kv l hx (by omega) _ (λz hz=>BU z G sv pv f procs (hg.later hz) _ ⟨17,5,0,0,0⟩ (hxi 0 (by omega) z hz) (hpl (by decide) (by decide) 0 (by omega) q0) hf.c0 hf.c1)
 by_cases h47:k=47
 · subst h47;simp only[show ¬ ((47:Int)=40\/(47:Int)=41\/(47:Int)=42\/(47:Int)=56) by decide,show ¬ ((47:Int)=43) by decide,show ¬ ((47:Int)=44\/(47:Int)=45) by decide,true_or,or_true,if_false,if_true,Bool.and_eq_true]at hb;obtain⟨hl,hq⟩:=hkb _ hb.2;simp only[List.length_cons,List.length_nil]at hl;have q0:=hq 0 (by simp) (by omega);have hE:dX f (procs.map ak.d) (.mk 47 n s (ae.ts l))=moveC f (l[0]'(by omega)).t ⟨18,5,0,0,0⟩:=by
    rw[eD];simp only[hgt 0 (by omega)];rfl
   rw[hE];exact _E w G n s kv l hx (by omega) _ (λz hz=>BU z G sv pv f procs (hg.later hz) _ ⟨18,5,0,0,0⟩ (hxi 0 (by omega) z hz) (hpl (by decide) (by decide) 0 (by omega) q0) hf.c0 hf.c1)
 by_cases h48:k=48
 · subst h48;simp only[show ¬ ((48:Int)=40\/(48:Int)=41\/(48:Int)=42\/(48:Int)=56) by decide,show ¬ ((48:Int)=43) by decide,show ¬ ((48:Int)=44\/(48:Int)=45) by decide,true_or,or_true,if_false,if_true,Bool.and_eq_true]at hb;obtain⟨hl,hq⟩:=hkb _ hb.2;simp only[List.length_cons,List.length_nil]at hl;have q0:=hq 0 (by simp) (by omega);have hE:dX f (procs.map ak.d) (.mk 48 n s (ae.ts l))=moveC f (l[0]'(by omega)).t ⟨19,5,0,0,0⟩:=by
    rw[eD];simp only[hgt 0 (by omega)];rfl
   rw[hE];exact _F w G n s kv l hx (by omega) _ (λz hz=>BU z G sv pv f procs (hg.later hz) _ ⟨19,5,0,0,0⟩ (hxi 0 (by omega) z hz) (hpl (by decide) (by decide) 0 (by omega) q0) hf.c0 hf.c1)
 by_cases vU:k=49
 · subst vU;simp only[show ¬ ((49:Int)=40\/(49:Int)=41\/(49:Int)=42\/(49:Int)=56) by decide,show ¬ ((49:Int)=43) by decide,show ¬ ((49:Int)=44\/(49:Int)=45) by decide,true_or,or_true,if_false,if_true,Bool.and_eq_true]at hb;obtain⟨hl,hq⟩:=hkb _ hb.2;simp only[List.length_cons,List.length_nil]at hl;have q0:=hq 0 (by simp) (by omega);have hE:dX f (procs.map ak.d) (.mk 49 n s (ae.ts l))=moveC f (l[0]'(by omega)).t ⟨20,5,0,0,0⟩:=by
    rw[eD];simp only[hgt 0 (by omega)];rfl
   rw[hE];exact _G w G n s kv l hx (by omega) _ (λz hz=>BU z G sv pv f procs (hg.later hz) _ ⟨20,5,0,0,0⟩ (hxi 0 (by omega) z hz) (hpl (by decide) (by decide) 0 (by omega) q0) hf.c0 hf.c1)
 by_cases vV:k=52
 · subst vV;simp only[show ¬ ((52:Int)=40\/(52:Int)=41\/(52:Int)=42\/(52:Int)=56) by decide,show ¬ ((52:Int)=43) by decide,show ¬ ((52:Int)=44\/(52:Int)=45) by decide,show ¬ ((52:Int)=46\/(52:Int)=47\/(52:Int)=48\/(52:Int)=49) by decide,show ¬ ((52:Int)=50\/(52:Int)=51) by decide,true_or,or_true,if_false,if_true,Bool.and_eq_true]at hb;obtain⟨hl,hq⟩:=hkb _ hb.2.1;simp only[List.length_cons,List.length_nil]at hl;have q0:=hq 0 (by simp) (by omega);have q3:=hq 3 (by simp) (by omega);obtain⟨j1,b1⟩:=vD _ _ hb.2.2.1;obtain⟨j2,b2⟩:=vD _ _ hb.2.2.2;rw[hti 1 (by omega)]at b1;rw[hti 2 (by omega)]at b2;have hE:dX f (procs.map ak.d) (.mk 52 n s (ae.ts l))=rT f (l[0]'(by omega)).t (aQ f (procs.map ak.d) (l[1]'(by omega)).t) (aQ f (procs.map ak.d) (l[2]'(by omega)).t) (l[3]'(by omega)).t:=by
    rw[eD];simp only[hgt 0 (by omega),hgt 3 (by omega),hbC 1 (by omega),hbC 2 (by omega)];rfl
   rw[hE];have l1:=hbl 1 (by omega);have l2:=hbl 2 (by omega);exact _u w G n s kv l hx _ (λz hz=>XZ z G sv pv f procs (hg.later hz) 52 n s kv l (hx.later hz) (by omega) (hex (by decide) (by decide) 0 (by omega) q0) (hex (by decide) (by decide) 3 (by omega) q3) hf.c0 hf.c1
    (λz' hz'=>hbk (by decide) (by decide) 1 (by omega) b1 z' (gtr hz hz')) (λz' hz'=>hbk (by decide) (by decide) 2 (by omega) b2 z' (gtr hz hz')) (by omega))
 by_cases vW:k=53
 · subst vW;simp only[show ¬ ((53:Int)=40\/(53:Int)=41\/(53:Int)=42\/(53:Int)=56) by decide,show ¬ ((53:Int)=43) by decide,show ¬ ((53:Int)=44\/(53:Int)=45) by decide,show ¬ ((53:Int)=46\/(53:Int)=47\/(53:Int)=48\/(53:Int)=49) by decide,show ¬ ((53:Int)=50\/(53:Int)=51) by decide,true_or,or_true,if_false,if_true,Bool.and_eq_true]at hb;obtain⟨hl,hq⟩:=hkb _ hb.2.1;simp only[List.length_cons,List.length_nil]at hl;have q0:=hq 0 (by simp) (by omega);have q3:=hq 3 (by simp) (by omega);obtain⟨j1,b1⟩:=vD _ _ hb.2.2.1;obtain⟨j2,b2⟩:=vD _ _ hb.2.2.2;rw[hti 1 (by omega)]at b1;rw[hti 2 (by omega)]at b2;have hE:dX f (procs.map ak.d) (.mk 53 n s (ae.ts l))=rZ f (l[0]'(by omega)).t (aQ f (procs.map ak.d) (l[1]'(by omega)).t) (aQ f (procs.map ak.d) (l[2]'(by omega)).t) (l[3]'(by omega)).t:=by
    rw[eD];simp only[hgt 0 (by omega),hgt 3 (by omega),hbC 1 (by omega),hbC 2 (by omega)];rfl
   rw[hE];have l1:=hbl 1 (by omega);have l2:=hbl 2 (by omega);exact _v w G n s kv l hx _ (λz hz=>Zy z G sv pv f procs (hg.later hz) 53 n s kv l (hx.later hz) (by omega) (hex (by decide) (by decide) 0 (by omega) q0) (hex (by decide) (by decide) 3 (by omega) q3) hf.c0 hf.c1
    (λz' hz'=>hbk (by decide) (by decide) 1 (by omega) b1 z' (gtr hz hz')) (λz' hz'=>hbk (by decide) (by decide) 2 (by omega) b2 z' (gtr hz hz')) (by omega))
 by_cases ou:k=54
 · subst ou;simp only[show ¬ ((54:Int)=40\/(54:Int)=41\/(54:Int)=42\/(54:Int)=56) by decide,show ¬ ((54:Int)=43) by decide,show ¬ ((54:Int)=44\/(54:Int)=45) by decide,show ¬ ((54:Int)=46\/(54:Int)=47\/(54:Int)=48\/(54:Int)=49) by decide,show ¬ ((54:Int)=50\/(54:Int)=51) by decide,show ¬ ((54:Int)=52\/(54:Int)=53) by decide,true_or,or_true,if_false,if_true,Bool.and_eq_true]at hb;obtain⟨hl,hq⟩:=hkb _ hb.2.1;simp only[List.length_cons,List.length_nil]at hl;have q0:=hq 0 (by simp) (by omega);have q2:=hq 2 (by simp) (by omega);obtain⟨j1,b1⟩:=vD _ _ hb.2.2;rw[hti 1 (by omega)]at b1;have hE:dX f (procs.map ak.d) (.mk 54 n s (ae.ts l))=lJ f s (l[0]'(by omega)).t (aQ f (procs.map ak.d) (l[1]'(by omega)).t) (l[2]'(by omega)).t:=by
    rw[eD];simp only[hgt 0 (by omega),hgt 2 (by omega),hbC 1 (by omega)];rfl
   rw[hE];have l1:=hbl 1 (by omega);exact _w w G n s kv l hx _ (λz hz=>Yx z G sv pv f procs (hg.later hz) 54 n s kv l (hx.later hz) (by omega) (hex (by decide) (by decide) 0 (by omega) q0) (hex (by decide) (by decide) 2 (by omega) q2) hf.c0 hf.c1
    (λz' hz'=>hbk (by decide) (by decide) 1 (by omega) b1 z' (gtr hz hz')) (by omega))
 by_cases mr:k=55
 · subst mr;simp only[show ¬ ((55:Int)=40\/(55:Int)=41\/(55:Int)=42\/(55:Int)=56) by decide,show ¬ ((55:Int)=43) by decide,show ¬ ((55:Int)=44\/(55:Int)=45) by decide,show ¬ ((55:Int)=46\/(55:Int)=47\/(55:Int)=48\/(55:Int)=49) by decide,show ¬ ((55:Int)=50\/(55:Int)=51) by decide,show ¬ ((55:Int)=52\/(55:Int)=53) by decide,show ¬ ((55:Int)=54) by decide,true_or,or_true,if_false,if_true,Bool.and_eq_true,beq_iff_eq]at hb;have hl:l.length=1:=by rw[← htl];exact hb.2.1
   obtain⟨j0,b0⟩:=vD _ _ hb.2.2;rw[hti 0 (by omega)]at b0;have hE:dX f (procs.map ak.d) (.mk 55 n s (ae.ts l))=lG f s (aQ f (procs.map ak.d) (l[0]'(by omega)).t):=by
    rw[eD];simp only[hbC 0 (by omega)];rfl
   rw[hE];have l0:=hbl 0 (by omega);exact _x w G n s kv l hx _ (λz hz=>Yy z G sv pv f procs (hg.later hz) 55 n s kv l (hx.later hz) (by omega)
    (λz' hz'=>hbk (by decide) (by decide) 0 (by omega) b0 z' (gtr hz hz')) (by omega))
 have h5:k=50\/k=51:=by
  rw[if_neg (by omega),if_neg (by omega),if_neg (by omega),if_neg (by omega)]at hb;by_cases h:k=50\/k=51
  · exact h
  · rw[if_neg h,if_neg (by omega),if_neg (by omega),if_neg (by omega)]at hb;cases hb
 rw[if_neg (by omega),if_neg (by omega),if_neg (by omega),if_neg (by omega),if_pos h5]at hb;simp only[Bool.and_eq_true,decide_eq_true_eq,htl]at hb;rw[if_pos h5]at hu;unfold wX at hu;rw[Dg]at hu;simp only[htl]at hu;have hlen:l.length=((eQ procs s).getD gU).params.length:=by
  by_cases e:l.length=((eQ procs s).getD gU).params.length
  · exact e
  · rw[if_pos e]at hu;cases hu
 have ha:=K7 f (ae.ts l) (frameC ((eQ procs s).getD gU).params).slots (λx hx=>((GN _ (hpo.find s)).2.2 x hx).1.2);rw[htl]at ha;rcases h5 with rfl|rfl
 · exact _y w G n s kv l hx _ (λz hz=>Qy hof z G sv pv f procs (hg.later hz) 50 n s kv l (hx.later hz) hlen (hpo.arg hf s) (by omega))
 · exact _z w G n s kv l hx _ (λz hz=>Qy hof z G sv pv f procs (hg.later hz) 51 n s kv l (hx.later hz) hlen (hpo.arg hf s) (by omega))
theorem Kj (hof:vO) (G:Nat) (sv pv:Value) (f:ax) (procs:List ak) (hf:BD f) (hpo:pY procs):∀ m:Nat,KN G sv pv f procs m/\Kt G sv pv f procs m
 |0=>⟨λx hm=>by cases x;simp at hm,λx hm=>by cases x;simp at hm⟩
 |m+1=>⟨YR hof G sv pv f procs hf hpo m (Kj hof G sv pv f procs hf hpo m).2,X3 G sv pv f procs hpo m (Kj hof G sv pv f procs hf hpo m).1⟩
theorem YS (hof:vO) (G:Nat) (sv pv:Value) (f:ax) (procs:List ak) (hf:BD f) (hpo:pY procs) (x:ae) (w:World) (hg:gX w G sv pv f procs) (hx:aR w x) (hb:bF x.t=true) (hu:fw f (procs.map ak.d) x.t=0) (hs:aI x.t<=80) :
 Calls Tryz.prog 22 #[.pointer (some ⟨G,0,none⟩),x.val] w (bP w (aQ f (procs.map ak.d) x.t)) :=
 (Kj hof G sv pv f procs hf hpo _).2 x (Nat.le_refl _) w hg hx hb hu hs
abbrev Ok0 (p:aB):Prop:=gY (λ_=>False) p
theorem Dv {f:ax} (hf:eP f) {e:Tree} (he:aN e=true) (hs:aI e<=80):∀ x∈bW f e,bT x:=QG f hf e 0 he (by decide) (by omega)
theorem Ku {f:ax} (hf:eP f) {e:Tree} (he:aN e=true) (hs:aI e<=80) (use:aB) (hr:use.refs=[]) (h0:eF cB use=use) :
 aD f e use=aL [ah (bW f e ++ [⟨13,4,0,0,0⟩]),use,ah ([⟨12,4,0,0,0⟩] ++ dC (bW f e))]:=by
 have h1:∀ x∈bW f e ++ [(⟨13,4,0,0,0⟩:Ins)],bT x:=λx hx=>by
  rcases List.mem_append.1 hx with h|h
  · exact Dv hf he hs x h
  · rw[List.mem_singleton.1 h];exact gI _ _ _ (by decide) (by decide) (by decide)
 have h2:∀ x∈[(⟨12,4,0,0,0⟩:Ins)] ++ dC (bW f e),bT x:=λx hx=>by
  rcases List.mem_append.1 hx with h|h
  · rw[List.mem_singleton.1 h];exact gI _ _ _ (by decide) (by decide) (by decide)
  · exact Kq _ (Dv hf he hs) x h
 have h2':∀ x∈(⟨12,4,0,0,0⟩:Ins) :: dC (bW f e),bT x:=h2;obtain⟨uc,ur⟩:=use;simp only at hr;subst hr;have e1:aL [ah (bW f e ++ [⟨13,4,0,0,0⟩]),⟨uc,[]⟩,ah ([⟨12,4,0,0,0⟩] ++ dC (bW f e))]=eF (eF (eF cB (ah (bW f e ++ [⟨13,4,0,0,0⟩]))) ⟨uc,[]⟩) (ah ([⟨12,4,0,0,0⟩] ++ dC (bW f e))):=rfl;rw[e1];unfold aD;simp only[eF,ah,cB,List.nil_append,List.map_nil,List.append_nil,List.length_nil,Qa _ _ h1,Qa _ _ h2',List.length_append,List.length_cons,List.append_assoc,List.cons_append]
theorem qF {f:ax} (hf:eP f) {e:Tree} (he:aN e=true) (hs:aI e<=80) (use:aB) (hr:use.refs=[]) (hu:Ok0 use) (hl:use.code.length<=20000):Ok0 (aD f e use):=by
 have hc:=nk f e;rw[Ku hf he hs use hr (hu.none (by omega))];refine rU _ (λp hp => ?_) ?_
 · simp only[List.mem_cons,List.not_mem_nil,or_false]at hp;rcases hp with rfl|rfl|rfl
   · refine wU _ (λx hx => ?_);rcases List.mem_append.1 hx with h|h
     · exact Dv hf he hs x h
     · rw[List.mem_singleton.1 h];exact gI _ _ _ (by decide) (by decide) (by decide)
   · exact hu
   · refine wU _ (λx hx => ?_);rcases List.mem_append.1 hx with h|h
     · rw[List.mem_singleton.1 h];exact gI _ _ _ (by decide) (by decide) (by decide)
     · exact Kq _ (Dv hf he hs) x h
 · simp only[aO,ah,List.map_cons,List.map_nil,List.sum_cons,List.sum_nil,List.length_append,List.length_cons,List.length_nil,BO];omega
theorem vw {f:ax} (hf:eP f) (s:ByteArray) (k r:Int) (hr:0<=r/\r<16):bT ⟨10,r,aj f s k,0,0⟩:=yL _ _ hr (by have:=hf.a s k;omega)
theorem wM {f:ax} (hf:eP f) (p:Tree) (r i:Int) (hr:0<=r/\r<16) (hi:0<=i/\i<16) (hne:r≠i):bT (bX f p r i):=by
 have h1:=hf.a p.name 2;have h2:=hf.l p.name;unfold aj at h1;exact Lp _ _ _ _ hr hi hne (by omega) (by omega)
theorem su {a b c:Ins} (ha:bT a) (hb:bT b) (hc:bT c):Ok0 (ah [a,b,c]):=wU _ λx hx=>by
 simp only[List.mem_cons,List.not_mem_nil,or_false]at hx;rcases hx with rfl|rfl|rfl <;> assumption
theorem wL {p:Tree} (h:dJ p=true) (h2:¬ p.kind=2):aN (p.kid 0)=true:=by
 obtain⟨k,n,s,l⟩:=p;simp only[dJ,Bool.and_eq_true,Bool.or_eq_true,beq_iff_eq,Tree.kind]at h h2;rcases h.1 with rfl|rfl
 · exact absurd rfl h2
 · have h3:=h.2;simp only[aN,show ¬ ((3:Int)=1) by decide,show ¬ ((3:Int)=2\/(3:Int)=4\/(3:Int)=5) by decide,if_false,if_true,Bool.and_eq_true,beq_iff_eq]at h3;obtain⟨-,hl,ha⟩:=h3
   match l,hl with
   | [t],_ =>
    simp only[jv,Bool.and_true]at ha;exact ha
theorem RN {f:ax} (hf:eP f) {p:Tree} (hp:dJ p=true) (hs:aI p<=80) (list:Ins->aB) (h:∀ i,bT i->Ok0 (list i)/\(list i).refs=[]/\(list i).code.length<=20000):Ok0 (vG f p list):=by
 unfold vG;split
 · exact(h _ (vw hf _ _ _ (by decide))).1
 · rename_i h2;have:=h _ (wM hf p 5 4 (by decide) (by decide) (by decide));exact qF hf (wL hp h2) (Nat.le_trans (nV p 0) hs) _ this.2.1 this.1 this.2.2
theorem aaO {f:ax} (hf:eP f) {p:Tree} (hp:dJ p=true) (hs:aI p<=80) (i:Ins) (hi:bT i):Ok0 (moveC f p i) :=
 RN hf hp hs _ λc hc=>⟨su hc hi hc,rfl,by simp[ah]⟩
theorem yM:Ok0 fP:=wU _ λx hx=>by rw[List.mem_singleton.1 hx];exact Ri
theorem Gd (a b c:aB) (ha:a.refs=[]) (hb:b.refs=[]) (hc:c.refs=[]):(aL [a,b,c]).refs=[]:=by
 apply List.eq_nil_of_length_eq_zero;rw[(dI _).2];simp[bV,ha,hb,hc]
theorem La {f:ax} (hf:eP f) {p e:Tree} (hp:dJ p=true) (he:aN e=true) (hs:aI p<=80) (hse:aI e<=80) (op:Int) (ho:op=1\/op=2\/op=3):Ok0 (kU f p e op):=by
 have hce:=nk f e;unfold kU;split
 · exact qF hf he hse _ rfl (su (vw hf _ _ _ (by decide)) (Ab _ _ _ ho (by decide) (by decide) (by decide)) (vw hf _ _ _ (by decide))) (by simp[ah])
 · rename_i h2;have h1:=wM hf p 6 5 (by decide) (by decide) (by decide);have hin:=qF hf he hse _ rfl (su h1 (Ab op 6 4 ho (by decide) (by decide) (by decide)) h1) (by simp[ah]);have hil:=kT f e (ah [bX f p 6 5,⟨op,6,4,0,0⟩,bX f p 6 5]);simp only[ah,List.length_cons,List.length_nil]at hil;refine qF hf (wL hp h2) (Nat.le_trans (nV p 0) hs) _ ?_ (rU _ (λq hq => ?_) ?_) ?_
   · exact Gd _ _ _ rfl (List.eq_nil_of_length_eq_zero hil.2) rfl
   · simp only[List.mem_cons,List.not_mem_nil,or_false]at hq;rcases hq with rfl|rfl|rfl
     · exact yM
     · exact hin
     · exact yM
   · simp only[aO,fP,ah,List.map_cons,List.map_nil,List.sum_cons,List.sum_nil,List.length_cons,List.length_nil,hil.1];omega
   · rw[(dI _).1];simp only[aO,fP,ah,List.map_cons,List.map_nil,List.sum_cons,List.sum_nil,List.length_cons,List.length_nil,hil.1];omega
theorem R6 {o a b c d:Int} (h:0<=o/\o<32/\bH o=true) (ht:In64 (Ins.target ⟨o,a,b,c,d⟩)) (hv:∀ t,0<=t->t<65536->(Ins.bN ⟨o,a,b,c,d⟩ t).gT=true):Raw ⟨o,a,b,c,d⟩:=⟨h.1,h.2.1,h.2.2,ht,hv⟩
theorem Io (o:Int) (ho:o=22\/o=25):Raw ⟨o,0,0,0,0⟩:=by
 rcases ho with rfl|rfl <;> exact R6 (by decide) (by simp[Ins.target,kZ,mi,In64]) (λt h1 h2=>by simp[Ins.bN,kZ,Ins.gT,mP,unused,o7,Co];omega)
theorem Ck (o r:Int) (ho:o=23\/o=24\/o=26\/o=27) (hr:0<=r/\r<16):Raw ⟨o,r,0,0,0⟩:=by
 rcases ho with rfl|rfl|rfl|rfl <;> exact R6 (by decide) (by simp[Ins.target,kZ,mi,In64]) (λt h1 h2=>by simp[Ins.bN,kZ,mi,Ins.gT,mP,unused,o7,Co,jk];omega)
theorem Kv {f:ax} (hf:eP f) (p q:Tree):Ok0 (dH f p q):=by
 have i1:=wM hf p 6 5 (by decide) (by decide) (by decide);have i2:=wM hf q 6 4 (by decide) (by decide) (by decide);unfold dH;split
 · exact su i1 i2 i1
 · have heq:bT ⟨9,7,5,4,16⟩:=G6 _ _ _ _ (by decide) (by decide) (by decide) (by decide) (by decide) (by decide);have h0:gY (λi=>i=3\/i=7) (ah [bX f p 6 5,bX f p 6 5,⟨9,7,5,4,16⟩,⟨24,7,0,0,0⟩,bX f p 6 5,bX f q 6 4,bX f p 6 5,⟨27,7,0,0,0⟩,⟨9,7,5,4,16⟩,bX f p 6 5,bX f p 6 5]):=by
    refine Eb _ _ (λi x hx => ?_) (λi hi=>by simp;omega);have hi:=nu hx;simp only[List.length_cons,List.length_nil]at hi;have hcs:i=0\/i=1\/i=2\/i=3\/i=4\/i=5\/i=6\/i=7\/i=8\/i=9\/i=10:=by omega
    rcases hcs with rfl|rfl|rfl|rfl|rfl|rfl|rfl|rfl|rfl|rfl|rfl
    all_goals
     simp only[List.getElem?_cons_zero,List.getElem?_cons_succ,Option.some.injEq]at hx;subst hx
    · exact .inr ⟨by decide,i1⟩
    · exact .inr ⟨by decide,i1⟩
    · exact .inr ⟨by decide,heq⟩
    · exact .inl ⟨by decide,Ck _ _ (by decide) (by decide)⟩
    · exact .inr ⟨by decide,i1⟩
    · exact .inr ⟨by decide,i2⟩
    · exact .inr ⟨by decide,i1⟩
    · exact .inl ⟨by decide,Ck _ _ (by decide) (by decide)⟩
    · exact .inr ⟨by decide,heq⟩
    · exact .inr ⟨by decide,i1⟩
    · exact .inr ⟨by decide,i1⟩
   exact(h0.pair 3 7 (.inl rfl) (.inr rfl) (by decide) _ _ rfl rfl (.inl ⟨by decide,by decide⟩) (by simp[ah])).congr λi=>⟨λh=>by obtain⟨h,h1,h2⟩:=h;omega,λh=>h.elim⟩
theorem RO {f:ax} (hf:eP f) {p q:Tree} (hq:dJ q=true) (hs:aI q<=80):Ok0 (rV f p q):=by
 unfold rV;split
 · exact R5
 · exact RN hf hq hs _ λc hc=>⟨su (vw hf _ _ _ (by decide)) hc (vw hf _ _ _ (by decide)),rfl,by simp[ah]⟩
theorem aaP {f:ax} (hf:eP f) {p q:Tree} (hp:dJ p=true) (hq:dJ q=true) (hsp:aI p<=80) (CX:aI q<=80):Ok0 (jB f p q):=by
 unfold jB;split
 · rename_i h3;have hce:=nk f (q.kid 0);have hkl:=nV q 0;have hxl:=Dq f p q;have hin:=qF hf (wL hq (by omega)) (Nat.le_trans (nV q 0) CX) _ hxl.2 (Kv hf p q) (by omega);have hil:=kT f (q.kid 0) (dH f p q);refine qF hf (wL hp (by omega)) (Nat.le_trans (nV p 0) hsp) _ ?_ (rU _ (λr hr => ?_) ?_) ?_
   · exact Gd _ _ _ rfl (List.eq_nil_of_length_eq_zero hil.2) rfl
   · simp only[List.mem_cons,List.not_mem_nil,or_false]at hr;rcases hr with rfl|rfl|rfl
     · exact yM
     · exact hin
     · exact yM
   · simp only[aO,fP,ah,List.map_cons,List.map_nil,List.sum_cons,List.sum_nil,List.length_cons,List.length_nil,hil.1];omega
   · rw[(dI _).1];simp only[aO,fP,ah,List.map_cons,List.map_nil,List.sum_cons,List.sum_nil,List.length_cons,List.length_nil,hil.1];omega
 · split
   · exact RO hf hp hsp
   · exact RO hf hq CX
theorem Ig {f:ax} (hf:eP f) {e:Tree} (he:aN e=true) (hs:aI e<=80):Ok0 (dW f e) :=
 qF hf he hs _ rfl (wU _ λx hx=>by rw[List.mem_singleton.1 hx];exact G6 _ _ _ _ (by decide) (by decide) (by decide) (by decide) (by decide) (by decide)) (by simp[ah])
end Go.Proofs.YtnobahchcongnaaGreatDoor
