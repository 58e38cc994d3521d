import Derived.Test.YtnobahchcongnaaGreatF34
import Derived.Test.YtnobahchcongnaaGreatF35
import Derived.Test.YtnobahchcongnaaGreatF36
set_option linter.unusedSimpArgs false
set_option linter.unusedVariables false
set_option maxRecDepth 100000
set_option maxHeartbeats 25600000
namespace Go.Proofs.YtnobahchcongnaaGreat
open Go.RowKit Go.Instr
theorem uo (ps:List (Tree->Bool)) (l:List Tree) (h:bV ps l=true):l.length=ps.length:=by
 rcases Nat.decEq ps.length l.length with e|e
 · rw[Jl ps l e]at h;cases h
 · exact e.symm
theorem O9 (ps:List (Tree->Bool)) (l:List Tree) (h:bV ps l=true) (i:Nat) (h1:i<ps.length) (h2:i<l.length):ps[i] l[i]=true:=by
 rcases hb:ps[i] l[i]with _|_
 · rw[IG ps l i h1 h2 hb]at h;cases h
 · rfl
theorem IP:∀ (l:List Int),mQ l=0->∀ i (h:i<l.length),l[i]=0
 |a :: l,h,i,hi=>by
  simp only[mQ]at h;by_cases ha:a=0
  · rw[if_neg (by simpa using ha)]at h;cases i with
    |zero=>exact ha
    |succ i=>exact IP l h i (by simpa using hi)
  · rw[if_pos ha]at h;exact absurd h ha
def pU (m:Nat) (f:az):Prop:=(0<=f.cells/\f.cells<=16 * m)/\(0<=f.stacks/\f.stacks<=m)/\∀ s∈f.slots,(0<=s.len/\s.len<=16)/\0<=s.at'/\s.at'<=16 * m
theorem Jb (f:az) (v:aA) (m:Nat) (h:pU m f) (hv:v.okB=true):pU (m+1) (gL f v):=by
 obtain⟨hc,hs,hsl⟩:=h;obtain⟨n,k,ln⟩:=v;have hl:0<=ln/\ln<=16:=by
  simp only[aA.okB,mE]at hv;split at hv
  · have:ln=0:=by simpa using hv
    omega
  · split at hv
    · simp at hv;omega
    · cases hv
 have hold:∀ s∈f.slots,(0<=s.len/\s.len<=16)/\0<=s.at'/\s.at'<=16 * ((m+1:Nat):Int):=λs hs'=>by
  have:=hsl s hs';omega
 unfold gL;split
 · refine⟨by simp only[];omega,by simp only[];omega,λs hs' => ?_⟩;rcases List.mem_append.1 hs' with h|h
   · exact hold s h
   · rw[List.mem_singleton.1 h];simp only[];omega
 · split
   · refine⟨by simp only[];omega,by simp only[];omega,λs hs' => ?_⟩;rcases List.mem_append.1 hs' with h|h
     · exact hold s h
     · rw[List.mem_singleton.1 h];simp only[];omega
   · refine⟨by simp only[];omega,by simp only[];omega,λs hs' => ?_⟩;rcases List.mem_append.1 hs' with h|h
     · exact hold s h
     · rw[List.mem_singleton.1 h];simp only[];omega
theorem IQ:∀ (l:List aA) (f:az) (m:Nat),pU m f->l.all aA.okB=true->pU (m+l.length) (l.foldl gL f)
 | [],f,m,h,_=>h
 |v :: l,f,m,h,ha=>by
  simp only[List.all_cons,Bool.and_eq_true]at ha;have:=IQ l (gL f v) (m+1) (Jb f v m h ha.1) ha.2;rw[show m+(v :: l).length=m+1+l.length from by rw[List.length_cons];omega];exact this
theorem Yg (l:List aA) (h:jX l=0):gN l=true:=by
 unfold jX at h;split at h
 · assumption
 · cases h
theorem Jv (l:List aA) (h:jX l=0):pU 32 (frameC l):=by
 have hv:=Yg l h;simp only[gN,Bool.and_eq_true,decide_eq_true_eq]at hv;have:=IQ l iI 0 ⟨by simp[iI],by simp[iI],by simp[iI]⟩ hv.2;obtain⟨h1,h2,h3⟩:=this;refine⟨by unfold frameC;omega,by unfold frameC;omega,λs hs => ?_⟩;have:=h3 s hs;omega
structure yG (f:az):Prop where
 c0:0<=f.cells
 c1:f.cells<=1000
 s0:0<=f.stacks
 s1:f.stacks<=1000
 a:∀ s k,0<=aj f s k/\aj f s k<=100000
def sj (procs:List ak):Prop:=∀ p∈procs,jX p.params=0
theorem sj.find {procs:List ak} (h:sj procs) (s:ByteArray):jX ((dY procs s).getD gz).params=0:=by
 rcases hf:dY procs s with _|p
 · simp[gz,jX,gN,nR]
 · exact h p (List.mem_of_find?_eq_some hf)
theorem sj.pr {procs:List ak} (h:sj procs):De (procs.map ak.d):=λs x hx=>by
 rw[Eu]at hx;exact((Jv _ (h.find s)).2.2 x hx).1.2
theorem sj.arg {procs:List ak} (h:sj procs) {f:az} (hf:yG f) (s:ByteArray):KD f ((dY procs s).getD gz).params :=
 ⟨h.find s,⟨hf.c0,hf.c1⟩,⟨hf.s0,hf.s1⟩,hf.a,λx hx=>by have:=(Jv _ (h.find s)).2.2 x hx;omega⟩
theorem x9.of (f:az) (procs:List aU) (t:Tree) (he:ik t=true) (hn:dm f procs t=true) (hs:bA t<=2000):x9 f t:=by
 obtain⟨k,n,s,l⟩:=t;simp only[ik,Bool.and_eq_true,Bool.or_eq_true,beq_iff_eq,Tree.kind]at he;rcases he.1 with rfl|rfl
 · exact .inl rfl
 · have h2:=he.2;simp only[aM,show ¬ ((3:Int)=1) by decide,show ¬ ((3:Int)=2\/(3:Int)=4\/(3:Int)=5) by decide,if_false,if_true,Bool.and_eq_true,beq_iff_eq]at h2;obtain⟨-,hl,ha⟩:=h2
   match l,hl with
   | [t],_ =>
    simp only[mf,Bool.and_true]at ha;simp only[dm,show ¬ ((3:Int)=2\/(3:Int)=54) by decide,if_false,if_true,kN,Bool.and_true,Bool.and_eq_true,Bool.or_eq_true]at hn;have h57:(t.kind == 57)=false:=by
     obtain⟨k',n',s',l'⟩:=t;rcases hb:(Tree.mk k' n' s' l').kind == 57 with _|_
     · rfl
     · have:k'=57:=by simpa[Tree.kind]using hb
       subst this;simp[aM]at ha
    rw[h57]at hn;refine .inr ⟨rfl,by simp[Tree.kids],?_⟩;simp only[bA,dz]at hs;exact nG.of f procs t ha (hn.2.elim (λe=>by cases e) id) (by omega)
theorem _q (t:Tree) (h:ik t=true):(t.kind == 57)=false:=by
 simp only[ik,Bool.and_eq_true,Bool.or_eq_true,beq_iff_eq]at h;rcases h.1 with e|e <;> rw[e] <;> rfl
theorem _t (t:Tree) (h:aM t=true):(t.kind == 57)=false:=by
 obtain⟨k,n,s,l⟩:=t;rcases hb:(Tree.mk k n s l).kind == 57 with _|_
 · rfl
 · have:k=57:=by simpa[Tree.kind]using hb
   subst this;simp[aM]at h
theorem Wy (f:az) (procs:List aU) (l:List Tree) (h:kN f procs l=true) (i:Nat) (hi:i<l.length) (hk:(l[i].kind == 57)=false):dm f procs l[i]=true:=by
 rw[Ar]at h;have:=List.all_eq_true.1 h l[i] (List.getElem_mem hi);rw[hk]at this
 simpa using this
theorem _u (t:Tree) (h:bW t=true):t.kind=57:=by
 obtain⟨k,n,s,l⟩:=t;simp only[bW,Bool.and_eq_true,beq_iff_eq]at h;exact h.1
theorem o5 (l:List Tree) (i:Nat) (h:(qA l).getD i false=true):∃ hi:i<l.length,bW l[i]=true:=by
 rw[Fh,List.getD_eq_getElem?_getD]at h;by_cases hi:i<l.length
 · refine⟨hi,?_⟩;rw[List.getElem?_eq_getElem (by simpa using hi),List.getElem_map]at h;exact h
 · rw[List.getElem?_eq_none (by simpa using hi)]at h;cases h
theorem Oq (f:az) (procs:List aU) (l:List Tree) (i:Nat) (h:i<l.length):(jd f procs l).getD i fP=aV f procs l[i]:=by
 rw[WV,List.getD_eq_getElem?_getD,List.getElem?_eq_getElem (by simpa using h),List.getElem_map];rfl
theorem Zd (f:az) (procs:List aU) (l:List Tree) (h:mQ (AR f procs l)=0) (i:Nat) (hi:i<l.length) (hb:bW l[i]=true):eT f procs l[i]=0:=by
 have:=IP _ h i (by rw[EG];simpa using hi);simp only[EG,List.getElem_map,_u _ hb,if_true]at this;exact this
theorem aaj (l:List ae) (i:Nat) (h:i<l.length):(ae.ts l).getD i dx=l[i].t:=by
 rw[List.getD_eq_getElem?_getD,List.getElem?_eq_getElem (by rw[ae.bT];exact h),ae.gm l i h];rfl
def Jw (G:Nat) (sv pv:Value) (f:az) (procs:List ak) (m:Nat):Prop:=∀ (x:ae),SizeOf.sizeOf x<=m->∀ w:World,gD w G sv pv f procs->aS w x->bP x.t=true->jm f (procs.map ak.d) x.t=0->bA x.t<=80->Calls Tryz.prog 58 #[.pointer (some ⟨G,0,none⟩),x.val] w (bQ w (fw f (procs.map ak.d) x.t))
def Jc (G:Nat) (sv pv:Value) (f:az) (procs:List ak) (m:Nat):Prop:=∀ (x:ae),SizeOf.sizeOf x<=m->∀ w:World,gD w G sv pv f procs->aS w x->bW x.t=true->eT f (procs.map ak.d) x.t=0->bA x.t<=80->Calls Tryz.prog 30 #[.pointer (some ⟨G,0,none⟩),x.val] w (bQ w (aV f (procs.map ak.d) x.t))
theorem Wz (G:Nat) (sv pv:Value) (f:az) (procs:List ak) (hpo:sj procs) (m:Nat) (ih:Jw G sv pv f procs m):Jc G sv pv f procs (m+1):=by
 intro x hm w hg hx hb hu hs;obtain⟨k,n,s,kv,l⟩:=x;have hsub:∀ (i:Nat) (hi:i<l.length),SizeOf.sizeOf l[i]<=m:=λi hi=>by
  have:=nA (k:=k) (n:=n) (s:=s) (kv:=kv) (List.getElem_mem hi);omega
 have hu':mQ ((ae.ts l).map (jm f (procs.map ak.d)))=0:=by
  rw[ae.t,eT,I8]at hu;exact hu
 have ha:yR (ae.ts l)=true:=by
  rw[ae.t,bW]at hb;simp only[Bool.and_eq_true]at hb;exact hb.2.2
 rw[I1]at ha;have hsz:1+dz (ae.ts l)<=80:=by rw[ae.t,bA]at hs;exact hs
 have hln:=Iy (ae.ts l);rw[ae.bT]at hln;have hcl:=Ju f (procs.map ak.d) hpo.pr (ae.ts l);rw[Jq]at hcl;refine Xk w G sv pv f procs hg k n s kv l hx (λi hi z hz => ?_) (by omega);have hti:=ae.gm l i hi;refine ih l[i] (hsub i hi) z (hg.later hz) ((hx.row.2.2.2.2 _ (List.getElem_mem hi)).later hz) ?_ ?_ ?_
 · have:=List.all_eq_true.1 ha ((ae.ts l)[i]'(by rw[ae.bT];exact hi)) (List.getElem_mem _);rwa[hti]at this
 · have:=IP _ hu' i (by rw[List.length_map,ae.bT];exact hi);rwa[List.getElem_map,hti]at this
 · have:=EY (ae.ts l) i (by rw[ae.bT];exact hi);rw[hti]at this;omega
theorem Xm (hof:uL) (G:Nat) (sv pv:Value) (f:az) (procs:List ak) (hf:yG f) (hpo:sj procs) (m:Nat) (ih:Jc G sv pv f procs m):Jw G sv pv f procs (m+1):=by
 intro x hm w hg hx hb hu hs;obtain⟨k,n,s,kv,l⟩:=x;have hsub:∀ (i:Nat) (hi:i<l.length),SizeOf.sizeOf l[i]<=m:=λi hi=>by
  have:=nA (k:=k) (n:=n) (s:=s) (kv:=kv) (List.getElem_mem hi);omega
 have hti:=ae.gm l;have htl:=ae.bT l;have hsz:1+dz (ae.ts l)<=80:=by rw[ae.t,bA]at hs;exact hs
 have hsi:∀ (i:Nat) (hi:i<l.length),bA l[i].t<=80:=λi hi=>by
  have:=EY (ae.ts l) i (by rw[htl];exact hi);rw[hti i hi]at this;omega
 have hxi:∀ (i:Nat) (hi:i<l.length) (z:World),Grow w z->aS z l[i]:=λi hi z hz=>(hx.row.2.2.2.2 _ (List.getElem_mem hi)).later hz;rw[ae.t]at hb hu;rw[bP]at hb;rw[jm]at hu;have aak:k≠56:=by intro e;subst e;simp at hu
 rw[if_neg aak]at hu;have hnm:dm f (procs.map ak.d) (.mk k n s (ae.ts l))=true:=by
  rcases hq:dm f (procs.map ak.d) (.mk k n s (ae.ts l))with _|_
  · rw[if_pos hq]at hu;cases hu
  · rfl
 rw[if_neg (by rw[hnm];decide)]at hu;have hal:k≠50->k≠51->kN f (procs.map ak.d) (ae.ts l)=true:=λh50 kZ=>by
  rw[dm]at hnm
  repeat' split at hnm
  all_goals first
   |(simp only[Bool.and_eq_true]at hnm;exact hnm.2)
   |exact hnm
   |omega
 have hnk:∀ (h50:k≠50) (kZ:k≠51) (i:Nat) (hi:i<l.length),(l[i].t.kind == 57)=false->dm f (procs.map ak.d) l[i].t=true:=λh50 kZ i hi h57=>by
  have:=Wy f (procs.map ak.d) (ae.ts l) (hal h50 kZ) i (by rw[htl];exact hi) (by rw[hti i hi];exact h57);rwa[hti i hi]at this
 have hpl:∀ (h50:k≠50) (kZ:k≠51) (i:Nat) (hi:i<l.length),ik l[i].t=true->x9 f l[i].t:=λh50 kZ i hi hp =>
  x9.of f (procs.map ak.d) _ hp (hnk h50 kZ i hi (_q _ hp)) (by have:=hsi i hi;omega)
 have hex:∀ (h50:k≠50) (kZ:k≠51) (i:Nat) (hi:i<l.length),aM l[i].t=true->nG f l[i].t:=λh50 kZ i hi hp =>
  nG.of f (procs.map ak.d) _ hp (hnk h50 kZ i hi (_t _ hp)) (by have:=hsi i hi;omega)
 have hbk:∀ (h50:k≠50) (kZ:k≠51) (i:Nat) (hi:i<l.length),bW l[i].t=true->∀ z,Grow w z->Calls Tryz.prog 30 #[.pointer (some ⟨G,0,none⟩),(l[i]).val] z (bQ z (aV f (procs.map ak.d) (l[i]).t)):=λh50 kZ i hi hp z hz =>
  ih l[i] (hsub i hi) z (hg.later hz) (hxi i hi z hz) hp (by
   rw[if_neg (by omega)]at hu;have:=Zd f (procs.map ak.d) (ae.ts l) hu i (by rw[htl];exact hi) (by rw[hti i hi];exact hp);rwa[hti i hi]at this) (hsi i hi)
 have hbl:∀ (i:Nat) (hi:i<l.length),(aV f (procs.map ak.d) l[i].t).code.length<=800 * mJ (ae.ts l) i/\(aV f (procs.map ak.d) l[i].t).refs.length<=mJ (ae.ts l) i:=λi hi=>by
  have:=Ja f (procs.map ak.d) hpo.pr (ae.ts l) i;rwa[Oq _ _ _ _ (by rw[htl];exact hi),hti i hi]at this
 have hsd:=Qu (ae.ts l);have hkb:∀ (ps:List (Tree->Bool)),bV ps (ae.ts l)=true->l.length=ps.length/\∀ (i:Nat) (h1:i<ps.length) (h2:i<l.length),ps[i] l[i].t=true:=λps h=>by
  refine⟨by rw[← htl];exact uo _ _ h,λi h1 h2 => ?_⟩;have:=O9 _ _ h i h1 (by rw[htl];exact h2);rwa[hti i h2]at this
 have hgt:=aaj l;have hbC:∀ (i:Nat) (hi:i<l.length),(jd f (procs.map ak.d) (ae.ts l)).getD i fP=aV f (procs.map ak.d) l[i].t:=λi hi=>by
  rw[Oq _ _ _ _ (by rw[htl];exact hi),hti i hi]
 have hST:fw f (procs.map ak.d) (ae.t (.mk k n s kv l))=fw f (procs.map ak.d) (.mk k n s (ae.ts l)):=by rw[ae.t]
 rw[hST];by_cases uU:k=40
 · subst uU;simp only[true_or,or_true,if_true,Bool.and_eq_true]at hb;obtain⟨hl,hq⟩:=hkb _ hb.2;simp only[List.length_cons,List.length_nil]at hl;have q0:=hq 0 (by simp) (by omega);have q1:=hq 1 (by simp) (by omega);have hE:fw f (procs.map ak.d) (.mk 40 n s (ae.ts l))=nQ f (l[0]'(by omega)).t (l[1]'(by omega)).t 1:=by
    rw[nC];simp only[hgt 0 (by omega),hgt 1 (by omega)];rfl
   rw[hE];refine YX w G n s kv l hx _ (λz hz => ?_);have:=JN z G sv pv f procs (hg.later hz) (.mk 40 n s kv l) 1 (hx.later hz) (by show 1<(ae.ts l).length;rw[htl];omega) (by rw[iM 0 (by omega)];exact hpl (by decide) (by decide) 0 (by omega) q0) (by rw[iM 1 (by omega)];exact hex (by decide) (by decide) 1 (by omega) q1) hf.c0 hf.c1;rwa[iM 0 (by omega),iM 1 (by omega)]at this
 by_cases uV:k=41
 · subst uV;simp only[true_or,or_true,if_true,Bool.and_eq_true]at hb;obtain⟨hl,hq⟩:=hkb _ hb.2;simp only[List.length_cons,List.length_nil]at hl;have q0:=hq 0 (by simp) (by omega);have q1:=hq 1 (by simp) (by omega);have hE:fw f (procs.map ak.d) (.mk 41 n s (ae.ts l))=nQ f (l[0]'(by omega)).t (l[1]'(by omega)).t 2:=by
    rw[nC];simp only[hgt 0 (by omega),hgt 1 (by omega)];rfl
   rw[hE];refine YY w G n s kv l hx _ (λz hz => ?_);have:=JN z G sv pv f procs (hg.later hz) (.mk 41 n s kv l) 2 (hx.later hz) (by show 1<(ae.ts l).length;rw[htl];omega) (by rw[iM 0 (by omega)];exact hpl (by decide) (by decide) 0 (by omega) q0) (by rw[iM 1 (by omega)];exact hex (by decide) (by decide) 1 (by omega) q1) hf.c0 hf.c1;rwa[iM 0 (by omega),iM 1 (by omega)]at this
 by_cases uW:k=42
 · subst uW;simp only[true_or,or_true,if_true,Bool.and_eq_true]at hb;obtain⟨hl,hq⟩:=hkb _ hb.2;simp only[List.length_cons,List.length_nil]at hl;have q0:=hq 0 (by simp) (by omega);have q1:=hq 1 (by simp) (by omega);have hE:fw f (procs.map ak.d) (.mk 42 n s (ae.ts l))=nQ f (l[0]'(by omega)).t (l[1]'(by omega)).t 3:=by
    rw[nC];simp only[hgt 0 (by omega),hgt 1 (by omega)];rfl
   rw[hE];refine YZ w G n s kv l hx _ (λz hz => ?_);have:=JN z G sv pv f procs (hg.later hz) (.mk 42 n s kv l) 3 (hx.later hz) (by show 1<(ae.ts l).length;rw[htl];omega) (by rw[iM 0 (by omega)];exact hpl (by decide) (by decide) 0 (by omega) q0) (by rw[iM 1 (by omega)];exact hex (by decide) (by decide) 1 (by omega) q1) hf.c0 hf.c1;rwa[iM 0 (by omega),iM 1 (by omega)]at this
 by_cases h43:k=43
 · subst h43;simp only[show ¬ ((43:Int)=40\/(43:Int)=41\/(43:Int)=42\/(43:Int)=56) by decide,if_false,if_true,Bool.and_eq_true]at hb;obtain⟨hl,hq⟩:=hkb _ hb.2;simp only[List.length_cons,List.length_nil]at hl;have q0:=hq 0 (by simp) (by omega);have q1:=hq 1 (by simp) (by omega);have hE:fw f (procs.map ak.d) (.mk 43 n s (ae.ts l))=lG f (l[0]'(by omega)).t (l[1]'(by omega)).t:=by
    rw[nC];simp only[hgt 0 (by omega),hgt 1 (by omega)];rfl
   rw[hE];exact Y6 w G n s kv l hx (by omega) _ (λz hz=>Ya z G sv pv f procs (hg.later hz) _ _ (hxi 0 (by omega) z hz) (hxi 1 (by omega) z hz) (hpl (by decide) (by decide) 0 (by omega) q0) (hpl (by decide) (by decide) 1 (by omega) q1) hf.c0 hf.c1)
 by_cases oq:k=44
 · subst oq;simp only[show ¬ ((44:Int)=40\/(44:Int)=41\/(44:Int)=42\/(44:Int)=56) by decide,show ¬ ((44:Int)=43) by decide,true_or,or_true,if_false,if_true,Bool.and_eq_true]at hb;obtain⟨hl,hq⟩:=hkb _ hb.2;simp only[List.length_cons,List.length_nil]at hl;have q0:=hq 0 (by simp) (by omega);have hE:fw f (procs.map ak.d) (.mk 44 n s (ae.ts l))=moveC f (l[0]'(by omega)).t ⟨12,5,aj f s 3,0,0⟩:=by
    rw[nC];simp only[hgt 0 (by omega)];rfl
   rw[hE];exact Y7 w G sv pv f procs hg n s kv l hx (by omega) _ (λz hz=>Az z G sv pv f procs (hg.later hz) _ ⟨12,5,aj f s 3,0,0⟩ (hxi 0 (by omega) z hz) (hpl (by decide) (by decide) 0 (by omega) q0) hf.c0 hf.c1)
 by_cases h45:k=45
 · subst h45;simp only[show ¬ ((45:Int)=40\/(45:Int)=41\/(45:Int)=42\/(45:Int)=56) by decide,show ¬ ((45:Int)=43) by decide,true_or,or_true,if_false,if_true,Bool.and_eq_true]at hb;obtain⟨hl,hq⟩:=hkb _ hb.2;simp only[List.length_cons,List.length_nil]at hl;have q0:=hq 0 (by simp) (by omega);have hE:fw f (procs.map ak.d) (.mk 45 n s (ae.ts l))=moveC f (l[0]'(by omega)).t ⟨13,5,aj f s 3,0,0⟩:=by
    rw[nC];simp only[hgt 0 (by omega)];rfl
   rw[hE];exact Y8 w G sv pv f procs hg n s kv l hx (by omega) _ (λz hz=>Az z G sv pv f procs (hg.later hz) _ ⟨13,5,aj f s 3,0,0⟩ (hxi 0 (by omega) z hz) (hpl (by decide) (by decide) 0 (by omega) q0) hf.c0 hf.c1)
 by_cases h46:k=46
 · subst h46;simp only[show ¬ ((46:Int)=40\/(46:Int)=41\/(46:Int)=42\/(46:Int)=56) by decide,show ¬ ((46:Int)=43) by decide,show ¬ ((46:Int)=44\/(46:Int)=45) by decide,true_or,or_true,if_false,if_true,Bool.and_eq_true]at hb;obtain⟨hl,hq⟩:=hkb _ hb.2;simp only[List.length_cons,List.length_nil]at hl;have q0:=hq 0 (by simp) (by omega);have hE:fw f (procs.map ak.d) (.mk 46 n s (ae.ts l))=moveC f (l[0]'(by omega)).t ⟨17,5,0,0,0⟩:=by
    rw[nC];simp only[hgt 0 (by omega)];rfl
   rw[hE];exact Y9 w G n s kv l hx (by omega) _ (λz hz=>Az z G sv pv f procs (hg.later hz) _ ⟨17,5,0,0,0⟩ (hxi 0 (by omega) z hz) (hpl (by decide) (by decide) 0 (by omega) q0) hf.c0 hf.c1)
 by_cases h47:k=47
 · subst h47;simp only[show ¬ ((47:Int)=40\/(47:Int)=41\/(47:Int)=42\/(47:Int)=56) by decide,show ¬ ((47:Int)=43) by decide,show ¬ ((47:Int)=44\/(47:Int)=45) by decide,true_or,or_true,if_false,if_true,Bool.and_eq_true]at hb;obtain⟨hl,hq⟩:=hkb _ hb.2;simp only[List.length_cons,List.length_nil]at hl;have q0:=hq 0 (by simp) (by omega);have hE:fw f (procs.map ak.d) (.mk 47 n s (ae.ts l))=moveC f (l[0]'(by omega)).t ⟨18,5,0,0,0⟩:=by
    rw[nC];simp only[hgt 0 (by omega)];rfl
   rw[hE];exact Za w G n s kv l hx (by omega) _ (λz hz=>Az z G sv pv f procs (hg.later hz) _ ⟨18,5,0,0,0⟩ (hxi 0 (by omega) z hz) (hpl (by decide) (by decide) 0 (by omega) q0) hf.c0 hf.c1)
 by_cases h48:k=48
 · subst h48;simp only[show ¬ ((48:Int)=40\/(48:Int)=41\/(48:Int)=42\/(48:Int)=56) by decide,show ¬ ((48:Int)=43) by decide,show ¬ ((48:Int)=44\/(48:Int)=45) by decide,true_or,or_true,if_false,if_true,Bool.and_eq_true]at hb;obtain⟨hl,hq⟩:=hkb _ hb.2;simp only[List.length_cons,List.length_nil]at hl;have q0:=hq 0 (by simp) (by omega);have hE:fw f (procs.map ak.d) (.mk 48 n s (ae.ts l))=moveC f (l[0]'(by omega)).t ⟨19,5,0,0,0⟩:=by
    rw[nC];simp only[hgt 0 (by omega)];rfl
   rw[hE];exact Zb w G n s kv l hx (by omega) _ (λz hz=>Az z G sv pv f procs (hg.later hz) _ ⟨19,5,0,0,0⟩ (hxi 0 (by omega) z hz) (hpl (by decide) (by decide) 0 (by omega) q0) hf.c0 hf.c1)
 by_cases zJ:k=49
 · subst zJ;simp only[show ¬ ((49:Int)=40\/(49:Int)=41\/(49:Int)=42\/(49:Int)=56) by decide,show ¬ ((49:Int)=43) by decide,show ¬ ((49:Int)=44\/(49:Int)=45) by decide,true_or,or_true,if_false,if_true,Bool.and_eq_true]at hb;obtain⟨hl,hq⟩:=hkb _ hb.2;simp only[List.length_cons,List.length_nil]at hl;have q0:=hq 0 (by simp) (by omega);have hE:fw f (procs.map ak.d) (.mk 49 n s (ae.ts l))=moveC f (l[0]'(by omega)).t ⟨20,5,0,0,0⟩:=by
    rw[nC];simp only[hgt 0 (by omega)];rfl
   rw[hE];exact Zc w G n s kv l hx (by omega) _ (λz hz=>Az z G sv pv f procs (hg.later hz) _ ⟨20,5,0,0,0⟩ (hxi 0 (by omega) z hz) (hpl (by decide) (by decide) 0 (by omega) q0) hf.c0 hf.c1)
 by_cases tJ:k=52
 · subst tJ;simp only[show ¬ ((52:Int)=40\/(52:Int)=41\/(52:Int)=42\/(52:Int)=56) by decide,show ¬ ((52:Int)=43) by decide,show ¬ ((52:Int)=44\/(52:Int)=45) by decide,show ¬ ((52:Int)=46\/(52:Int)=47\/(52:Int)=48\/(52:Int)=49) by decide,show ¬ ((52:Int)=50\/(52:Int)=51) by decide,true_or,or_true,if_false,if_true,Bool.and_eq_true]at hb;obtain⟨hl,hq⟩:=hkb _ hb.2.1;simp only[List.length_cons,List.length_nil]at hl;have q0:=hq 0 (by simp) (by omega);have q3:=hq 3 (by simp) (by omega);obtain⟨j1,b1⟩:=o5 _ _ hb.2.2.1;obtain⟨j2,b2⟩:=o5 _ _ hb.2.2.2;rw[hti 1 (by omega)]at b1;rw[hti 2 (by omega)]at b2;have hE:fw f (procs.map ak.d) (.mk 52 n s (ae.ts l))=vP f (l[0]'(by omega)).t (aV f (procs.map ak.d) (l[1]'(by omega)).t) (aV f (procs.map ak.d) (l[2]'(by omega)).t) (l[3]'(by omega)).t:=by
    rw[nC];simp only[hgt 0 (by omega),hgt 3 (by omega),hbC 1 (by omega),hbC 2 (by omega)];rfl
   rw[hE];have l1:=hbl 1 (by omega);have l2:=hbl 2 (by omega);exact Y0 w G n s kv l hx _ (λz hz=>Wx z G sv pv f procs (hg.later hz) 52 n s kv l (hx.later hz) (by omega) (hex (by decide) (by decide) 0 (by omega) q0) (hex (by decide) (by decide) 3 (by omega) q3) hf.c0 hf.c1
    (λz' hz'=>hbk (by decide) (by decide) 1 (by omega) b1 z' (gtr hz hz')) (λz' hz'=>hbk (by decide) (by decide) 2 (by omega) b2 z' (gtr hz hz')) (by omega))
 by_cases tK:k=53
 · subst tK;simp only[show ¬ ((53:Int)=40\/(53:Int)=41\/(53:Int)=42\/(53:Int)=56) by decide,show ¬ ((53:Int)=43) by decide,show ¬ ((53:Int)=44\/(53:Int)=45) by decide,show ¬ ((53:Int)=46\/(53:Int)=47\/(53:Int)=48\/(53:Int)=49) by decide,show ¬ ((53:Int)=50\/(53:Int)=51) by decide,true_or,or_true,if_false,if_true,Bool.and_eq_true]at hb;obtain⟨hl,hq⟩:=hkb _ hb.2.1;simp only[List.length_cons,List.length_nil]at hl;have q0:=hq 0 (by simp) (by omega);have q3:=hq 3 (by simp) (by omega);obtain⟨j1,b1⟩:=o5 _ _ hb.2.2.1;obtain⟨j2,b2⟩:=o5 _ _ hb.2.2.2;rw[hti 1 (by omega)]at b1;rw[hti 2 (by omega)]at b2;have hE:fw f (procs.map ak.d) (.mk 53 n s (ae.ts l))=vV f (l[0]'(by omega)).t (aV f (procs.map ak.d) (l[1]'(by omega)).t) (aV f (procs.map ak.d) (l[2]'(by omega)).t) (l[3]'(by omega)).t:=by
    rw[nC];simp only[hgt 0 (by omega),hgt 3 (by omega),hbC 1 (by omega),hbC 2 (by omega)];rfl
   rw[hE];have l1:=hbl 1 (by omega);have l2:=hbl 2 (by omega);exact Y1 w G n s kv l hx _ (λz hz=>Yc z G sv pv f procs (hg.later hz) 53 n s kv l (hx.later hz) (by omega) (hex (by decide) (by decide) 0 (by omega) q0) (hex (by decide) (by decide) 3 (by omega) q3) hf.c0 hf.c1
    (λz' hz'=>hbk (by decide) (by decide) 1 (by omega) b1 z' (gtr hz hz')) (λz' hz'=>hbk (by decide) (by decide) 2 (by omega) b2 z' (gtr hz hz')) (by omega))
 by_cases jJ:k=54
 · subst jJ;simp only[show ¬ ((54:Int)=40\/(54:Int)=41\/(54:Int)=42\/(54:Int)=56) by decide,show ¬ ((54:Int)=43) by decide,show ¬ ((54:Int)=44\/(54:Int)=45) by decide,show ¬ ((54:Int)=46\/(54:Int)=47\/(54:Int)=48\/(54:Int)=49) by decide,show ¬ ((54:Int)=50\/(54:Int)=51) by decide,show ¬ ((54:Int)=52\/(54:Int)=53) by decide,true_or,or_true,if_false,if_true,Bool.and_eq_true]at hb;obtain⟨hl,hq⟩:=hkb _ hb.2.1;simp only[List.length_cons,List.length_nil]at hl;have q0:=hq 0 (by simp) (by omega);have q2:=hq 2 (by simp) (by omega);obtain⟨j1,b1⟩:=o5 _ _ hb.2.2;rw[hti 1 (by omega)]at b1;have hE:fw f (procs.map ak.d) (.mk 54 n s (ae.ts l))=vS f s (l[0]'(by omega)).t (aV f (procs.map ak.d) (l[1]'(by omega)).t) (l[2]'(by omega)).t:=by
    rw[nC];simp only[hgt 0 (by omega),hgt 2 (by omega),hbC 1 (by omega)];rfl
   rw[hE];have l1:=hbl 1 (by omega);exact Y2 w G n s kv l hx _ (λz hz=>W9 z G sv pv f procs (hg.later hz) 54 n s kv l (hx.later hz) (by omega) (hex (by decide) (by decide) 0 (by omega) q0) (hex (by decide) (by decide) 2 (by omega) q2) hf.c0 hf.c1
    (λz' hz'=>hbk (by decide) (by decide) 1 (by omega) b1 z' (gtr hz hz')) (by omega))
 by_cases jK:k=55
 · subst jK;simp only[show ¬ ((55:Int)=40\/(55:Int)=41\/(55:Int)=42\/(55:Int)=56) by decide,show ¬ ((55:Int)=43) by decide,show ¬ ((55:Int)=44\/(55:Int)=45) by decide,show ¬ ((55:Int)=46\/(55:Int)=47\/(55:Int)=48\/(55:Int)=49) by decide,show ¬ ((55:Int)=50\/(55:Int)=51) by decide,show ¬ ((55:Int)=52\/(55:Int)=53) by decide,show ¬ ((55:Int)=54) by decide,true_or,or_true,if_false,if_true,Bool.and_eq_true,beq_iff_eq]at hb;have hl:l.length=1:=by rw[← htl];exact hb.2.1
   obtain⟨j0,b0⟩:=o5 _ _ hb.2.2;rw[hti 0 (by omega)]at b0;have hE:fw f (procs.map ak.d) (.mk 55 n s (ae.ts l))=vL f s (aV f (procs.map ak.d) (l[0]'(by omega)).t):=by
    rw[nC];simp only[hbC 0 (by omega)];rfl
   rw[hE];have l0:=hbl 0 (by omega);exact Y3 w G n s kv l hx _ (λz hz=>Xa z G sv pv f procs (hg.later hz) 55 n s kv l (hx.later hz) (by omega)
    (λz' hz'=>hbk (by decide) (by decide) 0 (by omega) b0 z' (gtr hz hz')) (by omega))
 have h5:k=50\/k=51:=by
  rw[if_neg (by omega),if_neg (by omega),if_neg (by omega),if_neg (by omega)]at hb;by_cases h:k=50\/k=51
  · exact h
  · rw[if_neg h,if_neg (by omega),if_neg (by omega),if_neg (by omega)]at hb;cases hb
 rw[if_neg (by omega),if_neg (by omega),if_neg (by omega),if_neg (by omega),if_pos h5]at hb;simp only[Bool.and_eq_true,decide_eq_true_eq,htl]at hb;rw[if_pos h5]at hu;unfold sJ at hu;rw[Eu]at hu;simp only[htl]at hu;have hlen:l.length=((dY procs s).getD gz).params.length:=by
  by_cases e:l.length=((dY procs s).getD gz).params.length
  · exact e
  · rw[if_pos e]at hu;cases hu
 have ha:=JP f (ae.ts l) (frameC ((dY procs s).getD gz).params).slots (λx hx=>((Jv _ (hpo.find s)).2.2 x hx).1.2);rw[htl]at ha;rcases h5 with rfl|rfl
 · exact Y4 w G n s kv l hx _ (λz hz=>O0 hof z G sv pv f procs (hg.later hz) 50 n s kv l (hx.later hz) hlen (hpo.arg hf s) (by omega))
 · exact Y5 w G n s kv l hx _ (λz hz=>O0 hof z G sv pv f procs (hg.later hz) 51 n s kv l (hx.later hz) hlen (hpo.arg hf s) (by omega))
theorem IU (hof:uL) (G:Nat) (sv pv:Value) (f:az) (procs:List ak) (hf:yG f) (hpo:sj procs):∀ m:Nat,Jw G sv pv f procs m/\Jc G sv pv f procs m
 |0=>⟨λx hm=>by cases x;simp at hm,λx hm=>by cases x;simp at hm⟩
 |m+1=>⟨Xm hof G sv pv f procs hf hpo m (IU hof G sv pv f procs hf hpo m).2,Wz G sv pv f procs hpo m (IU hof G sv pv f procs hf hpo m).1⟩
theorem Xn (hof:uL) (G:Nat) (sv pv:Value) (f:az) (procs:List ak) (hf:yG f) (hpo:sj procs) (x:ae) (w:World) (hg:gD w G sv pv f procs) (hx:aS w x) (hb:bW x.t=true) (hu:eT f (procs.map ak.d) x.t=0) (hs:bA x.t<=80) :
 Calls Tryz.prog 30 #[.pointer (some ⟨G,0,none⟩),x.val] w (bQ w (aV f (procs.map ak.d) x.t)) :=
 (IU hof G sv pv f procs hf hpo _).2 x (Nat.le_refl _) w hg hx hb hu hs
end Go.Proofs.YtnobahchcongnaaGreat
