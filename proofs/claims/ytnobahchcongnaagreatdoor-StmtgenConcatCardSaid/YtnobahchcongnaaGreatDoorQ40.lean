import Derived.Test.YtnobahchcongnaaGreatDoorQ37
import Derived.Test.YtnobahchcongnaaGreatDoorQ38
import Derived.Test.YtnobahchcongnaaGreatDoorQ39
set_option linter.unusedSimpArgs false
set_option linter.unusedVariables false
set_option maxRecDepth 100000
set_option maxHeartbeats 25600000
namespace Go.Proofs.YtnobahchcongnaaGreatDoor
open Go.RowKit Go.Instr
theorem MR (ps:List (Tree→Bool)) (l:List Tree) (h:bL ps l=true):l.length=ps.length:=by
 rcases Nat.decEq ps.length l.length with e | e
 · rw [Ie ps l e] at h;cases h
 · exact e.symm
theorem NI (ps:List (Tree→Bool)) (l:List Tree) (h:bL ps l=true) (i:Nat) (h1:i<ps.length) (h2:i<l.length):ps[i] l[i]=true:=by
 rcases hb:ps[i] l[i] with _ | _
 · rw [Hd ps l i h1 h2 hb] at h;cases h
 · rfl
theorem D8:∀ (l:List Int),ng l=0→∀ i (h:i<l.length),l[i]=0
 | a :: l,h,i,hi=>by
  simp only [ng] at h;by_cases ha:a=0
  · rw [if_neg (by simpa using ha)] at h;cases i with
    | zero=>exact ha
    | succ i=>exact D8 l h i (by simpa using hi)
  · rw [if_pos ha] at h;exact absurd h ha
def oJ (m:Nat) (f:az):Prop:=(0≤f.cells∧f.cells≤16 * m)∧(0≤f.stacks∧f.stacks≤m)∧∀ s∈f.slots,(0≤s.len∧s.len≤16)∧0≤s.at'∧s.at'≤16 * m
theorem Hw (f:az) (v:bq) (m:Nat) (h:oJ m f) (hv:v.okB=true):oJ (m+1) (kR f v):=by
 obtain ⟨hc,hs,hsl⟩:=h;obtain ⟨n,k,ln⟩:=v;have hl:0≤ln∧ln≤16:=by
  simp only [bq.okB,si] at hv;split at hv
  · have:ln=0:=by simpa using hv
    omega
  · split at hv
    · simp at hv;omega
    · cases hv
 have hold:∀ s∈f.slots,(0≤s.len∧s.len≤16)∧0≤s.at'∧s.at'≤16 * ((m+1:Nat):Int):=fun s hs'=>by
  have:=hsl s hs';omega
 unfold kR;split
 · refine ⟨by simp only [];omega,by simp only [];omega,fun s hs' => ?_⟩;rcases List.mem_append.1 hs' with h | h
   · exact hold s h
   · rw [List.mem_singleton.1 h];simp only [];omega
 · split
   · refine ⟨by simp only [];omega,by simp only [];omega,fun s hs' => ?_⟩;rcases List.mem_append.1 hs' with h | h
     · exact hold s h
     · rw [List.mem_singleton.1 h];simp only [];omega
   · refine ⟨by simp only [];omega,by simp only [];omega,fun s hs' => ?_⟩;rcases List.mem_append.1 hs' with h | h
     · exact hold s h
     · rw [List.mem_singleton.1 h];simp only [];omega
theorem Hl:∀ (l:List bq) (f:az) (m:Nat),oJ m f→l.all bq.okB=true→oJ (m+l.length) (l.foldl kR f)
 | [],f,m,h,_=>h
 | v :: l,f,m,h,ha=>by
  simp only [List.all_cons,Bool.and_eq_true] at ha;have:=Hl l (kR f v) (m+1) (Hw f v m h ha.1) ha.2;rw [show m+(v :: l).length=m+1+l.length from by rw [List.length_cons];omega];exact this
theorem WT (l:List bq) (h:iE l=0):jH l=true:=by
 unfold iE at h;split at h
 · assumption
 · cases h
theorem Es (l:List bq) (h:iE l=0):oJ 32 (frameC l):=by
 have hv:=WT l h;simp only [jH,Bool.and_eq_true,decide_eq_true_eq] at hv;have:=Hl l gU 0 ⟨by simp [gU],by simp [gU],by simp [gU]⟩ hv.2;obtain ⟨h1,h2,h3⟩:=this;refine ⟨by unfold frameC;omega,by unfold frameC;omega,fun s hs => ?_⟩;have:=h3 s hs;omega
structure zH (f:az):Prop where
 c0:0≤f.cells
 c1:f.cells≤1000
 s0:0≤f.stacks
 s1:f.stacks≤1000
 a:∀ s k,0≤ak f s k∧ak f s k≤100000
def oK (procs:List aj):Prop:=∀ p∈procs,iE p.params=0
theorem oK.find {procs:List aj} (h:oK procs) (s:ByteArray):iE ((eP procs s).getD fZ).params=0:=by
 rcases hf:eP procs s with _ | p
 · simp [fZ,iE,jH,tZ]
 · exact h p (List.mem_of_find?_eq_some hf)
theorem oK.pr {procs:List aj} (h:oK procs):Av (procs.map aj.d):=fun s x hx=>by
 rw [Bc] at hx;exact ((Es _ (h.find s)).2.2 x hx).1.2
theorem oK.arg {procs:List aj} (h:oK procs) {f:az} (hf:zH f) (s:ByteArray):Jw f ((eP procs s).getD fZ).params :=
 ⟨h.find s,⟨hf.c0,hf.c1⟩,⟨hf.s0,hf.s1⟩,hf.a,fun x hx=>by have:=(Es _ (h.find s)).2.2 x hx;omega⟩
theorem xy.of (f:az) (procs:List cB) (t:Tree) (he:dB t=true) (hn:aO f procs t=true) (hs:aW t≤2000):xy f t:=by
 obtain ⟨k,n,s,l⟩:=t;simp only [dB,Bool.and_eq_true,Bool.or_eq_true,beq_iff_eq,Tree.kind] at he;rcases he.1 with rfl | rfl
 · exact .inl rfl
 · have h2:=he.2;simp only [aI,show ¬ ((3:Int)=1) by decide,show ¬ ((3:Int)=2∨(3:Int)=4∨(3:Int)=5) by decide,if_false,if_true,Bool.and_eq_true,beq_iff_eq] at h2;obtain ⟨-,hl,ha⟩:=h2
   match l,hl with
   | [t],_ =>
    simp only [iV,Bool.and_true] at ha;simp only [aO,show ¬ ((3:Int)=2∨(3:Int)=54) by decide,if_false,if_true,fP,Bool.and_true,Bool.and_eq_true,Bool.or_eq_true] at hn;have h57:(t.kind == 57)=false:=by
     obtain ⟨k',n',s',l'⟩:=t;rcases hb:(Tree.mk k' n' s' l').kind == 57 with _ | _
     · rfl
     · have:k'=57:=by simpa [Tree.kind] using hb
       subst this;simp [aI] at ha
    rw [h57] at hn;refine .inr ⟨rfl,by simp [Tree.kids],?_⟩;simp only [aW,cu] at hs;exact mH.of f procs t ha (hn.2.elim (fun e=>by cases e) id) (by omega)
theorem Za (t:Tree) (h:dB t=true):(t.kind == 57)=false:=by
 simp only [dB,Bool.and_eq_true,Bool.or_eq_true,beq_iff_eq] at h;rcases h.1 with e | e <;> rw [e] <;> rfl
theorem Zb (t:Tree) (h:aI t=true):(t.kind == 57)=false:=by
 obtain ⟨k,n,s,l⟩:=t;rcases hb:(Tree.mk k n s l).kind == 57 with _ | _
 · rfl
 · have:k=57:=by simpa [Tree.kind] using hb
   subst this;simp [aI] at h
theorem U9 (f:az) (procs:List cB) (l:List Tree) (h:fP f procs l=true) (i:Nat) (hi:i<l.length) (hk:(l[i].kind == 57)=false):aO f procs l[i]=true:=by
 rw [kI] at h;have:=List.all_eq_true.1 h l[i] (List.getElem_mem hi);rw [hk] at this
 simpa using this
theorem Zc (t:Tree) (h:dw t=true):t.kind=57:=by
 obtain ⟨k,n,s,l⟩:=t;simp only [dw,Bool.and_eq_true,beq_iff_eq] at h;exact h.1
theorem Ab (l:List Tree) (i:Nat) (h:(lI l).getD i false=true):∃ hi:i<l.length,dw l[i]=true:=by
 rw [EM,List.getD_eq_getElem?_getD] at h;by_cases hi:i<l.length
 · refine ⟨hi,?_⟩;rw [List.getElem?_eq_getElem (by simpa using hi),List.getElem_map] at h;exact h
 · rw [List.getElem?_eq_none (by simpa using hi)] at h;cases h
theorem MS (f:az) (procs:List cB) (l:List Tree) (i:Nat) (h:i<l.length):(iW f procs l).getD i cO=aR f procs l[i]:=by
 rw [VA,List.getD_eq_getElem?_getD,List.getElem?_eq_getElem (by simpa using h),List.getElem_map];rfl
theorem XQ (f:az) (procs:List cB) (l:List Tree) (h:ng (Af f procs l)=0) (i:Nat) (hi:i<l.length) (hb:dw l[i]=true):fQ f procs l[i]=0:=by
 have:=D8 _ h i (by rw [Il];simpa using hi);simp only [Il,List.getElem_map,Zc _ hb,if_true] at this;exact this
theorem Z0 (l:List ae) (i:Nat) (h:i<l.length):(ae.ts l).getD i dG=l[i].t:=by
 rw [List.getD_eq_getElem?_getD,List.getElem?_eq_getElem (by rw [ae.cZ];exact h),ae.gK l i h];rfl
def Iq (G:Nat) (sv pv:Value) (f:az) (procs:List aj) (m:Nat):Prop:=∀ (x:ae),SizeOf.sizeOf x≤m→∀ w:World,gm w G sv pv f procs→aV w x→bg x.t=true→j5 f (procs.map aj.d) x.t=0→aW x.t≤80→Calls Tryz.prog 46 #[.pointer (some ⟨G,0,none⟩),x.val] w (bN w (fB f (procs.map aj.d) x.t))
def Hy (G:Nat) (sv pv:Value) (f:az) (procs:List aj) (m:Nat):Prop:=∀ (x:ae),SizeOf.sizeOf x≤m→∀ w:World,gm w G sv pv f procs→aV w x→dw x.t=true→fQ f (procs.map aj.d) x.t=0→aW x.t≤80→Calls Tryz.prog 22 #[.pointer (some ⟨G,0,none⟩),x.val] w (bN w (aR f (procs.map aj.d) x.t))
theorem Va (G:Nat) (sv pv:Value) (f:az) (procs:List aj) (hpo:oK procs) (m:Nat) (ih:Iq G sv pv f procs m):Hy G sv pv f procs (m+1):=by
 intro x hm w hg hx hb hu hs;obtain ⟨k,n,s,kv,l⟩:=x;have hsub:∀ (i:Nat) (hi:i<l.length),SizeOf.sizeOf l[i]≤m:=fun i hi=>by
  have:=nV (k:=k) (n:=n) (s:=s) (kv:=kv) (List.getElem_mem hi);omega
 have hu':ng ((ae.ts l).map (j5 f (procs.map aj.d)))=0:=by
  rw [ae.t,fQ,Ee] at hu;exact hu
 have ha:uV (ae.ts l)=true:=by
  rw [ae.t,dw] at hb;simp only [Bool.and_eq_true] at hb;exact hb.2.2
 rw [Ec] at ha;have hsz:1+cu (ae.ts l)≤80:=by rw [ae.t,aW] at hs;exact hs
 have hln:=Bd (ae.ts l);rw [ae.cZ] at hln;have hcl:=Ip f (procs.map aj.d) hpo.pr (ae.ts l);rw [Bi] at hcl;refine VR w G sv pv f procs hg k n s kv l hx (fun i hi z hz => ?_) (by omega);have hti:=ae.gK l i hi;refine ih l[i] (hsub i hi) z (hg.later hz) ((hx.row.2.2.2.2 _ (List.getElem_mem hi)).later hz) ?_ ?_ ?_
 · have:=List.all_eq_true.1 ha ((ae.ts l)[i]'(by rw [ae.cZ];exact hi)) (List.getElem_mem _);rwa [hti] at this
 · have:=D8 _ hu' i (by rw [List.length_map,ae.cZ];exact hi);rwa [List.getElem_map,hti] at this
 · have:=Bl (ae.ts l) i (by rw [ae.cZ];exact hi);rw [hti] at this;omega
theorem VU (hof:uq) (G:Nat) (sv pv:Value) (f:az) (procs:List aj) (hf:zH f) (hpo:oK procs) (m:Nat) (ih:Hy G sv pv f procs m):Iq G sv pv f procs (m+1):=by
 intro x hm w hg hx hb hu hs;obtain ⟨k,n,s,kv,l⟩:=x;have hsub:∀ (i:Nat) (hi:i<l.length),SizeOf.sizeOf l[i]≤m:=fun i hi=>by
  have:=nV (k:=k) (n:=n) (s:=s) (kv:=kv) (List.getElem_mem hi);omega
 have hti:=ae.gK l;have htl:=ae.cZ l;have hsz:1+cu (ae.ts l)≤80:=by rw [ae.t,aW] at hs;exact hs
 have hsi:∀ (i:Nat) (hi:i<l.length),aW l[i].t≤80:=fun i hi=>by
  have:=Bl (ae.ts l) i (by rw [htl];exact hi);rw [hti i hi] at this;omega
 have hxi:∀ (i:Nat) (hi:i<l.length) (z:World),Grow w z→aV z l[i]:=fun i hi z hz=>(hx.row.2.2.2.2 _ (List.getElem_mem hi)).later hz;rw [ae.t] at hb hu;rw [bg] at hb;rw [j5] at hu;have Z4:k≠56:=by intro e;subst e;simp at hu
 rw [if_neg Z4] at hu;have hnm:aO f (procs.map aj.d) (.mk k n s (ae.ts l))=true:=by
  rcases hq:aO f (procs.map aj.d) (.mk k n s (ae.ts l)) with _ | _
  · rw [if_pos hq] at hu;cases hu
  · rfl
 rw [if_neg (by rw [hnm];decide)] at hu;have hal:k≠50→k≠51→fP f (procs.map aj.d) (ae.ts l)=true:=fun h50 kD=>by
  rw [aO] at hnm
  repeat' split at hnm
  all_goals first
   | (simp only [Bool.and_eq_true] at hnm;exact hnm.2)
   | exact hnm
   | omega
 have hnk:∀ (h50:k≠50) (kD:k≠51) (i:Nat) (hi:i<l.length),(l[i].t.kind == 57)=false→aO f (procs.map aj.d) l[i].t=true:=fun h50 kD i hi h57=>by
  have:=U9 f (procs.map aj.d) (ae.ts l) (hal h50 kD) i (by rw [htl];exact hi) (by rw [hti i hi];exact h57);rwa [hti i hi] at this
 have hpl:∀ (h50:k≠50) (kD:k≠51) (i:Nat) (hi:i<l.length),dB l[i].t=true→xy f l[i].t:=fun h50 kD i hi hp =>
  xy.of f (procs.map aj.d) _ hp (hnk h50 kD i hi (Za _ hp)) (by have:=hsi i hi;omega)
 have hex:∀ (h50:k≠50) (kD:k≠51) (i:Nat) (hi:i<l.length),aI l[i].t=true→mH f l[i].t:=fun h50 kD i hi hp =>
  mH.of f (procs.map aj.d) _ hp (hnk h50 kD i hi (Zb _ hp)) (by have:=hsi i hi;omega)
 have hbk:∀ (h50:k≠50) (kD:k≠51) (i:Nat) (hi:i<l.length),dw l[i].t=true→∀ z,Grow w z→Calls Tryz.prog 22 #[.pointer (some ⟨G,0,none⟩),(l[i]).val] z (bN z (aR f (procs.map aj.d) (l[i]).t)):=fun h50 kD i hi hp z hz =>
  ih l[i] (hsub i hi) z (hg.later hz) (hxi i hi z hz) hp (by
   rw [if_neg (by omega)] at hu;have:=XQ f (procs.map aj.d) (ae.ts l) hu i (by rw [htl];exact hi) (by rw [hti i hi];exact hp);rwa [hti i hi] at this) (hsi i hi)
 have hbl:∀ (i:Nat) (hi:i<l.length),(aR f (procs.map aj.d) l[i].t).code.length≤800 * lN (ae.ts l) i∧(aR f (procs.map aj.d) l[i].t).refs.length≤lN (ae.ts l) i:=fun i hi=>by
  have:=Hu f (procs.map aj.d) hpo.pr (ae.ts l) i;rwa [MS _ _ _ _ (by rw [htl];exact hi),hti i hi] at this
 have hsd:=OY (ae.ts l);have hkb:∀ (ps:List (Tree→Bool)),bL ps (ae.ts l)=true→l.length=ps.length∧∀ (i:Nat) (h1:i<ps.length) (h2:i<l.length),ps[i] l[i].t=true:=fun ps h=>by
  refine ⟨by rw [← htl];exact MR _ _ h,fun i h1 h2 => ?_⟩;have:=NI _ _ h i h1 (by rw [htl];exact h2);rwa [hti i h2] at this
 have hgt:=Z0 l;have hbC:∀ (i:Nat) (hi:i<l.length),(iW f (procs.map aj.d) (ae.ts l)).getD i cO=aR f (procs.map aj.d) l[i].t:=fun i hi=>by
  rw [MS _ _ _ _ (by rw [htl];exact hi),hti i hi]
 have hST:fB f (procs.map aj.d) (ae.t (.mk k n s kv l))=fB f (procs.map aj.d) (.mk k n s (ae.ts l)):=by rw [ae.t]
 rw [hST];by_cases rq:k=40
 · subst rq;simp only [true_or,or_true,if_true,Bool.and_eq_true] at hb;obtain ⟨hl,hq⟩:=hkb _ hb.2;simp only [List.length_cons,List.length_nil] at hl;have q0:=hq 0 (by simp) (by omega);have q1:=hq 1 (by simp) (by omega);have hE:fB f (procs.map aj.d) (.mk 40 n s (ae.ts l))=lS f (l[0]'(by omega)).t (l[1]'(by omega)).t 1:=by
    rw [mr];simp only [hgt 0 (by omega),hgt 1 (by omega)];rfl
   rw [hE];refine Xy w G n s kv l hx _ (fun z hz => ?_);have:=IK z G sv pv f procs (hg.later hz) (.mk 40 n s kv l) 1 (hx.later hz) (by show 1<(ae.ts l).length;rw [htl];omega) (by rw [gY 0 (by omega)];exact hpl (by decide) (by decide) 0 (by omega) q0) (by rw [gY 1 (by omega)];exact hex (by decide) (by decide) 1 (by omega) q1) hf.c0 hf.c1;rwa [gY 0 (by omega),gY 1 (by omega)] at this
 by_cases ru:k=41
 · subst ru;simp only [true_or,or_true,if_true,Bool.and_eq_true] at hb;obtain ⟨hl,hq⟩:=hkb _ hb.2;simp only [List.length_cons,List.length_nil] at hl;have q0:=hq 0 (by simp) (by omega);have q1:=hq 1 (by simp) (by omega);have hE:fB f (procs.map aj.d) (.mk 41 n s (ae.ts l))=lS f (l[0]'(by omega)).t (l[1]'(by omega)).t 2:=by
    rw [mr];simp only [hgt 0 (by omega),hgt 1 (by omega)];rfl
   rw [hE];refine Xz w G n s kv l hx _ (fun z hz => ?_);have:=IK z G sv pv f procs (hg.later hz) (.mk 41 n s kv l) 2 (hx.later hz) (by show 1<(ae.ts l).length;rw [htl];omega) (by rw [gY 0 (by omega)];exact hpl (by decide) (by decide) 0 (by omega) q0) (by rw [gY 1 (by omega)];exact hex (by decide) (by decide) 1 (by omega) q1) hf.c0 hf.c1;rwa [gY 0 (by omega),gY 1 (by omega)] at this
 by_cases ry:k=42
 · subst ry;simp only [true_or,or_true,if_true,Bool.and_eq_true] at hb;obtain ⟨hl,hq⟩:=hkb _ hb.2;simp only [List.length_cons,List.length_nil] at hl;have q0:=hq 0 (by simp) (by omega);have q1:=hq 1 (by simp) (by omega);have hE:fB f (procs.map aj.d) (.mk 42 n s (ae.ts l))=lS f (l[0]'(by omega)).t (l[1]'(by omega)).t 3:=by
    rw [mr];simp only [hgt 0 (by omega),hgt 1 (by omega)];rfl
   rw [hE];refine XA w G n s kv l hx _ (fun z hz => ?_);have:=IK z G sv pv f procs (hg.later hz) (.mk 42 n s kv l) 3 (hx.later hz) (by show 1<(ae.ts l).length;rw [htl];omega) (by rw [gY 0 (by omega)];exact hpl (by decide) (by decide) 0 (by omega) q0) (by rw [gY 1 (by omega)];exact hex (by decide) (by decide) 1 (by omega) q1) hf.c0 hf.c1;rwa [gY 0 (by omega),gY 1 (by omega)] at this
 by_cases h43:k=43
 · subst h43;simp only [show ¬ ((43:Int)=40∨(43:Int)=41∨(43:Int)=42∨(43:Int)=56) by decide,if_false,if_true,Bool.and_eq_true] at hb;obtain ⟨hl,hq⟩:=hkb _ hb.2;simp only [List.length_cons,List.length_nil] at hl;have q0:=hq 0 (by simp) (by omega);have q1:=hq 1 (by simp) (by omega);have hE:fB f (procs.map aj.d) (.mk 43 n s (ae.ts l))=jO f (l[0]'(by omega)).t (l[1]'(by omega)).t:=by
    rw [mr];simp only [hgt 0 (by omega),hgt 1 (by omega)];rfl
   rw [hE];exact XJ w G n s kv l hx (by omega) _ (fun z hz=>WN z G sv pv f procs (hg.later hz) _ _ (hxi 0 (by omega) z hz) (hxi 1 (by omega) z hz) (hpl (by decide) (by decide) 0 (by omega) q0) (hpl (by decide) (by decide) 1 (by omega) q1) hf.c0 hf.c1)
 by_cases lY:k=44
 · subst lY;simp only [show ¬ ((44:Int)=40∨(44:Int)=41∨(44:Int)=42∨(44:Int)=56) by decide,show ¬ ((44:Int)=43) by decide,true_or,or_true,if_false,if_true,Bool.and_eq_true] at hb;obtain ⟨hl,hq⟩:=hkb _ hb.2;simp only [List.length_cons,List.length_nil] at hl;have q0:=hq 0 (by simp) (by omega);have hE:fB f (procs.map aj.d) (.mk 44 n s (ae.ts l))=moveC f (l[0]'(by omega)).t ⟨12,5,ak f s 3,0,0⟩:=by
    rw [mr];simp only [hgt 0 (by omega)];rfl
   rw [hE];exact XK w G sv pv f procs hg n s kv l hx (by omega) _ (fun z hz=>zU z G sv pv f procs (hg.later hz) _ ⟨12,5,ak f s 3,0,0⟩ (hxi 0 (by omega) z hz) (hpl (by decide) (by decide) 0 (by omega) q0) hf.c0 hf.c1)
 by_cases h45:k=45
 · subst h45;simp only [show ¬ ((45:Int)=40∨(45:Int)=41∨(45:Int)=42∨(45:Int)=56) by decide,show ¬ ((45:Int)=43) by decide,true_or,or_true,if_false,if_true,Bool.and_eq_true] at hb;obtain ⟨hl,hq⟩:=hkb _ hb.2;simp only [List.length_cons,List.length_nil] at hl;have q0:=hq 0 (by simp) (by omega);have hE:fB f (procs.map aj.d) (.mk 45 n s (ae.ts l))=moveC f (l[0]'(by omega)).t ⟨13,5,ak f s 3,0,0⟩:=by
    rw [mr];simp only [hgt 0 (by omega)];rfl
   rw [hE];exact XL w G sv pv f procs hg n s kv l hx (by omega) _ (fun z hz=>zU z G sv pv f procs (hg.later hz) _ ⟨13,5,ak f s 3,0,0⟩ (hxi 0 (by omega) z hz) (hpl (by decide) (by decide) 0 (by omega) q0) hf.c0 hf.c1)
 by_cases h46:k=46
 · subst h46;simp only [show ¬ ((46:Int)=40∨(46:Int)=41∨(46:Int)=42∨(46:Int)=56) by decide,show ¬ ((46:Int)=43) by decide,show ¬ ((46:Int)=44∨(46:Int)=45) by decide,true_or,or_true,if_false,if_true,Bool.and_eq_true] at hb;obtain ⟨hl,hq⟩:=hkb _ hb.2;simp only [List.length_cons,List.length_nil] at hl;have q0:=hq 0 (by simp) (by omega);have hE:fB f (procs.map aj.d) (.mk 46 n s (ae.ts l))=moveC f (l[0]'(by omega)).t ⟨17,5,0,0,0⟩:=by
    rw [mr];simp only [hgt 0 (by omega)];rfl
   rw [hE];exact XM w G n s kv l hx (by omega) _ (fun z hz=>zU z G sv pv f procs (hg.later hz) _ ⟨17,5,0,0,0⟩ (hxi 0 (by omega) z hz) (hpl (by decide) (by decide) 0 (by omega) q0) hf.c0 hf.c1)
 by_cases h47:k=47
 · subst h47;simp only [show ¬ ((47:Int)=40∨(47:Int)=41∨(47:Int)=42∨(47:Int)=56) by decide,show ¬ ((47:Int)=43) by decide,show ¬ ((47:Int)=44∨(47:Int)=45) by decide,true_or,or_true,if_false,if_true,Bool.and_eq_true] at hb;obtain ⟨hl,hq⟩:=hkb _ hb.2;simp only [List.length_cons,List.length_nil] at hl;have q0:=hq 0 (by simp) (by omega);have hE:fB f (procs.map aj.d) (.mk 47 n s (ae.ts l))=moveC f (l[0]'(by omega)).t ⟨18,5,0,0,0⟩:=by
    rw [mr];simp only [hgt 0 (by omega)];rfl
   rw [hE];exact XN w G n s kv l hx (by omega) _ (fun z hz=>zU z G sv pv f procs (hg.later hz) _ ⟨18,5,0,0,0⟩ (hxi 0 (by omega) z hz) (hpl (by decide) (by decide) 0 (by omega) q0) hf.c0 hf.c1)
 by_cases h48:k=48
 · subst h48;simp only [show ¬ ((48:Int)=40∨(48:Int)=41∨(48:Int)=42∨(48:Int)=56) by decide,show ¬ ((48:Int)=43) by decide,show ¬ ((48:Int)=44∨(48:Int)=45) by decide,true_or,or_true,if_false,if_true,Bool.and_eq_true] at hb;obtain ⟨hl,hq⟩:=hkb _ hb.2;simp only [List.length_cons,List.length_nil] at hl;have q0:=hq 0 (by simp) (by omega);have hE:fB f (procs.map aj.d) (.mk 48 n s (ae.ts l))=moveC f (l[0]'(by omega)).t ⟨19,5,0,0,0⟩:=by
    rw [mr];simp only [hgt 0 (by omega)];rfl
   rw [hE];exact XO w G n s kv l hx (by omega) _ (fun z hz=>zU z G sv pv f procs (hg.later hz) _ ⟨19,5,0,0,0⟩ (hxi 0 (by omega) z hz) (hpl (by decide) (by decide) 0 (by omega) q0) hf.c0 hf.c1)
 by_cases sJ:k=49
 · subst sJ;simp only [show ¬ ((49:Int)=40∨(49:Int)=41∨(49:Int)=42∨(49:Int)=56) by decide,show ¬ ((49:Int)=43) by decide,show ¬ ((49:Int)=44∨(49:Int)=45) by decide,true_or,or_true,if_false,if_true,Bool.and_eq_true] at hb;obtain ⟨hl,hq⟩:=hkb _ hb.2;simp only [List.length_cons,List.length_nil] at hl;have q0:=hq 0 (by simp) (by omega);have hE:fB f (procs.map aj.d) (.mk 49 n s (ae.ts l))=moveC f (l[0]'(by omega)).t ⟨20,5,0,0,0⟩:=by
    rw [mr];simp only [hgt 0 (by omega)];rfl
   rw [hE];exact XP w G n s kv l hx (by omega) _ (fun z hz=>zU z G sv pv f procs (hg.later hz) _ ⟨20,5,0,0,0⟩ (hxi 0 (by omega) z hz) (hpl (by decide) (by decide) 0 (by omega) q0) hf.c0 hf.c1)
 by_cases sK:k=52
 · subst sK;simp only [show ¬ ((52:Int)=40∨(52:Int)=41∨(52:Int)=42∨(52:Int)=56) by decide,show ¬ ((52:Int)=43) by decide,show ¬ ((52:Int)=44∨(52:Int)=45) by decide,show ¬ ((52:Int)=46∨(52:Int)=47∨(52:Int)=48∨(52:Int)=49) by decide,show ¬ ((52:Int)=50∨(52:Int)=51) by decide,true_or,or_true,if_false,if_true,Bool.and_eq_true] at hb;obtain ⟨hl,hq⟩:=hkb _ hb.2.1;simp only [List.length_cons,List.length_nil] at hl;have q0:=hq 0 (by simp) (by omega);have q3:=hq 3 (by simp) (by omega);obtain ⟨j1,b1⟩:=Ab _ _ hb.2.2.1;obtain ⟨j2,b2⟩:=Ab _ _ hb.2.2.2;rw [hti 1 (by omega)] at b1;rw [hti 2 (by omega)] at b2;have hE:fB f (procs.map aj.d) (.mk 52 n s (ae.ts l))=qF f (l[0]'(by omega)).t (aR f (procs.map aj.d) (l[1]'(by omega)).t) (aR f (procs.map aj.d) (l[2]'(by omega)).t) (l[3]'(by omega)).t:=by
    rw [mr];simp only [hgt 0 (by omega),hgt 3 (by omega),hbC 1 (by omega),hbC 2 (by omega)];rfl
   rw [hE];have l1:=hbl 1 (by omega);have l2:=hbl 2 (by omega);exact XD w G n s kv l hx _ (fun z hz=>U8 z G sv pv f procs (hg.later hz) 52 n s kv l (hx.later hz) (by omega) (hex (by decide) (by decide) 0 (by omega) q0) (hex (by decide) (by decide) 3 (by omega) q3) hf.c0 hf.c1
    (fun z' hz'=>hbk (by decide) (by decide) 1 (by omega) b1 z' (gtr hz hz')) (fun z' hz'=>hbk (by decide) (by decide) 2 (by omega) b2 z' (gtr hz hz')) (by omega))
 by_cases sM:k=53
 · subst sM;simp only [show ¬ ((53:Int)=40∨(53:Int)=41∨(53:Int)=42∨(53:Int)=56) by decide,show ¬ ((53:Int)=43) by decide,show ¬ ((53:Int)=44∨(53:Int)=45) by decide,show ¬ ((53:Int)=46∨(53:Int)=47∨(53:Int)=48∨(53:Int)=49) by decide,show ¬ ((53:Int)=50∨(53:Int)=51) by decide,true_or,or_true,if_false,if_true,Bool.and_eq_true] at hb;obtain ⟨hl,hq⟩:=hkb _ hb.2.1;simp only [List.length_cons,List.length_nil] at hl;have q0:=hq 0 (by simp) (by omega);have q3:=hq 3 (by simp) (by omega);obtain ⟨j1,b1⟩:=Ab _ _ hb.2.2.1;obtain ⟨j2,b2⟩:=Ab _ _ hb.2.2.2;rw [hti 1 (by omega)] at b1;rw [hti 2 (by omega)] at b2;have hE:fB f (procs.map aj.d) (.mk 53 n s (ae.ts l))=qN f (l[0]'(by omega)).t (aR f (procs.map aj.d) (l[1]'(by omega)).t) (aR f (procs.map aj.d) (l[2]'(by omega)).t) (l[3]'(by omega)).t:=by
    rw [mr];simp only [hgt 0 (by omega),hgt 3 (by omega),hbC 1 (by omega),hbC 2 (by omega)];rfl
   rw [hE];have l1:=hbl 1 (by omega);have l2:=hbl 2 (by omega);exact XE w G n s kv l hx _ (fun z hz=>WQ z G sv pv f procs (hg.later hz) 53 n s kv l (hx.later hz) (by omega) (hex (by decide) (by decide) 0 (by omega) q0) (hex (by decide) (by decide) 3 (by omega) q3) hf.c0 hf.c1
    (fun z' hz'=>hbk (by decide) (by decide) 1 (by omega) b1 z' (gtr hz hz')) (fun z' hz'=>hbk (by decide) (by decide) 2 (by omega) b2 z' (gtr hz hz')) (by omega))
 by_cases mK:k=54
 · subst mK;simp only [show ¬ ((54:Int)=40∨(54:Int)=41∨(54:Int)=42∨(54:Int)=56) by decide,show ¬ ((54:Int)=43) by decide,show ¬ ((54:Int)=44∨(54:Int)=45) by decide,show ¬ ((54:Int)=46∨(54:Int)=47∨(54:Int)=48∨(54:Int)=49) by decide,show ¬ ((54:Int)=50∨(54:Int)=51) by decide,show ¬ ((54:Int)=52∨(54:Int)=53) by decide,true_or,or_true,if_false,if_true,Bool.and_eq_true] at hb;obtain ⟨hl,hq⟩:=hkb _ hb.2.1;simp only [List.length_cons,List.length_nil] at hl;have q0:=hq 0 (by simp) (by omega);have q2:=hq 2 (by simp) (by omega);obtain ⟨j1,b1⟩:=Ab _ _ hb.2.2;rw [hti 1 (by omega)] at b1;have hE:fB f (procs.map aj.d) (.mk 54 n s (ae.ts l))=qH f s (l[0]'(by omega)).t (aR f (procs.map aj.d) (l[1]'(by omega)).t) (l[2]'(by omega)).t:=by
    rw [mr];simp only [hgt 0 (by omega),hgt 2 (by omega),hbC 1 (by omega)];rfl
   rw [hE];have l1:=hbl 1 (by omega);exact XF w G n s kv l hx _ (fun z hz=>VF z G sv pv f procs (hg.later hz) 54 n s kv l (hx.later hz) (by omega) (hex (by decide) (by decide) 0 (by omega) q0) (hex (by decide) (by decide) 2 (by omega) q2) hf.c0 hf.c1
    (fun z' hz'=>hbk (by decide) (by decide) 1 (by omega) b1 z' (gtr hz hz')) (by omega))
 by_cases lu:k=55
 · subst lu;simp only [show ¬ ((55:Int)=40∨(55:Int)=41∨(55:Int)=42∨(55:Int)=56) by decide,show ¬ ((55:Int)=43) by decide,show ¬ ((55:Int)=44∨(55:Int)=45) by decide,show ¬ ((55:Int)=46∨(55:Int)=47∨(55:Int)=48∨(55:Int)=49) by decide,show ¬ ((55:Int)=50∨(55:Int)=51) by decide,show ¬ ((55:Int)=52∨(55:Int)=53) by decide,show ¬ ((55:Int)=54) by decide,true_or,or_true,if_false,if_true,Bool.and_eq_true,beq_iff_eq] at hb;have hl:l.length=1:=by rw [← htl];exact hb.2.1
   obtain ⟨j0,b0⟩:=Ab _ _ hb.2.2;rw [hti 0 (by omega)] at b0;have hE:fB f (procs.map aj.d) (.mk 55 n s (ae.ts l))=qy f s (aR f (procs.map aj.d) (l[0]'(by omega)).t):=by
    rw [mr];simp only [hbC 0 (by omega)];rfl
   rw [hE];have l0:=hbl 0 (by omega);exact XG w G n s kv l hx _ (fun z hz=>VG z G sv pv f procs (hg.later hz) 55 n s kv l (hx.later hz) (by omega)
    (fun z' hz'=>hbk (by decide) (by decide) 0 (by omega) b0 z' (gtr hz hz')) (by omega))
 have h5:k=50∨k=51:=by
  rw [if_neg (by omega),if_neg (by omega),if_neg (by omega),if_neg (by omega)] at hb;by_cases h:k=50∨k=51
  · exact h
  · rw [if_neg h,if_neg (by omega),if_neg (by omega),if_neg (by omega)] at hb;cases hb
 rw [if_neg (by omega),if_neg (by omega),if_neg (by omega),if_neg (by omega),if_pos h5] at hb;simp only [Bool.and_eq_true,decide_eq_true_eq,htl] at hb;rw [if_pos h5] at hu;unfold vE at hu;rw [Bc] at hu;simp only [htl] at hu;have hlen:l.length=((eP procs s).getD fZ).params.length:=by
  by_cases e:l.length=((eP procs s).getD fZ).params.length
  · exact e
  · rw [if_pos e] at hu;cases hu
 have ha:=IM f (ae.ts l) (frameC ((eP procs s).getD fZ).params).slots (fun x hx=>((Es _ (hpo.find s)).2.2 x hx).1.2);rw [htl] at ha;rcases h5 with rfl | rfl
 · exact XH w G n s kv l hx _ (fun z hz=>NA hof z G sv pv f procs (hg.later hz) 50 n s kv l (hx.later hz) hlen (hpo.arg hf s) (by omega))
 · exact XI w G n s kv l hx _ (fun z hz=>NA hof z G sv pv f procs (hg.later hz) 51 n s kv l (hx.later hz) hlen (hpo.arg hf s) (by omega))
theorem Hm (hof:uq) (G:Nat) (sv pv:Value) (f:az) (procs:List aj) (hf:zH f) (hpo:oK procs):∀ m:Nat,Iq G sv pv f procs m∧Hy G sv pv f procs m
 | 0=>⟨fun x hm=>by cases x;simp at hm,fun x hm=>by cases x;simp at hm⟩
 | m+1=>⟨VU hof G sv pv f procs hf hpo m (Hm hof G sv pv f procs hf hpo m).2,Va G sv pv f procs hpo m (Hm hof G sv pv f procs hf hpo m).1⟩
theorem VV (hof:uq) (G:Nat) (sv pv:Value) (f:az) (procs:List aj) (hf:zH f) (hpo:oK procs) (x:ae) (w:World) (hg:gm w G sv pv f procs) (hx:aV w x) (hb:dw x.t=true) (hu:fQ f (procs.map aj.d) x.t=0) (hs:aW x.t≤80) :
 Calls Tryz.prog 22 #[.pointer (some ⟨G,0,none⟩),x.val] w (bN w (aR f (procs.map aj.d) x.t)) :=
 (Hm hof G sv pv f procs hf hpo _).2 x (Nat.le_refl _) w hg hx hb hu hs
end Go.Proofs.YtnobahchcongnaaGreatDoor
