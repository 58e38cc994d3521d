import Derived.Test.YtnobahchcongnaaGreatF46
set_option linter.unusedSimpArgs false
set_option linter.unusedVariables false
set_option maxRecDepth 100000
set_option maxHeartbeats 25600000
namespace Go.Proofs.YtnobahchcongnaaGreat
open Go.RowKit
theorem XD:∀ (m:Nat) (t:Tree),SizeOf.sizeOf t<=m->aM t=true->sG t=0:=by
 intro m
 induction m with
 |zero=>intro t hm;cases t;simp at hm
 |succ m ih =>
  intro t hm he;obtain⟨k,n,s,l⟩:=t;obtain⟨hk,hl⟩:=BQ he;rw[JF,if_neg (by omega)];have key:∀ r:List Tree,(∀ t∈r,t∈l)->uH r=0:=by
   intro r
   induction r with
   |nil=>intro _;rfl
   |cons a r ihr =>
    intro h;obtain⟨j,hj,e⟩:=List.mem_iff_getElem.1 (h a (by simp));have h1:=ih a (by
     have:=List.sizeOf_lt_of_mem (h a (by simp));simp only[Tree.mk.sizeOf_spec]at hm
     omega) (by rw[← e];exact Je hl j hj)
    rw[yJ,h1,ihr (λt ht=>h t (by simp[ht]))]
  rw[key l (λ_ h=>h)]
theorem xE {t:Tree} (h:aM t=true):sG t=0:=XD _ t (Nat.le_refl _) h
theorem Ew:uH []=0:=rfl
theorem NH (l:List Tree) (h:∀ t∈l,sG t=0):uH l=0:=by
 induction l with
 |nil=>rfl
 |cons a l ih=>rw[yJ,h a (by simp),ih (λt ht=>h t (by simp[ht]))]
theorem aaw {l:List Tree} (h:l.length=1):∃ a,l=[a]:=by
 match l,h with
 | [a],_=>exact⟨a,rfl⟩
theorem aax {l:List Tree} (h:l.length=3):∃ a b c,l=[a,b,c]:=by
 match l,h with
 | [a,b,c],_=>exact⟨a,b,c,rfl⟩
theorem aay {l:List Tree} (h:l.length=4):∃ a b c d,l=[a,b,c,d]:=by
 match l,h with
 | [a,b,c,d],_=>exact⟨a,b,c,d,rfl⟩
theorem XE {k n:Int} {s:ByteArray} {l:List Tree} (h:bP (.mk k n s l)=true) (hk:k<50):uH l=0:=by
 refine NH l λt ht=>xE ?_;obtain⟨j,hj,rfl⟩:=List.mem_iff_getElem.1 ht;rcases JD h (by omega) j hj with h1|h1
 · exact h1
 · exfalso;have hs:=h;rw[bP]at hs;have hb:=(yQ h1.1).1;have hne:∀ t:Tree,aM t=true->t.kind≠57:=λt he e=>by
    obtain⟨k',n',s',l'⟩:=t;have:=(BQ he).1;simp only[Tree.kind]at e;omega
   have hk2:∀ (ps:List (Tree->Bool)),(∀ p∈ps,∀ t,p t=true->aM t=true)->bV ps l=true->False:=λps hp hkb=>by
    have hl:=uo _ _ hkb;have h2:=nP ps l hkb j (by omega) hj;exact hne _ (hp _ (List.getElem_mem (by omega)) _ h2) hb
   split at hs
   · simp only[Bool.and_eq_true]at hs;exact hk2 _ (by intro p hp t ht;simp only[List.mem_cons,List.not_mem_nil,or_false]at hp;rcases hp with rfl|rfl;exact vM ht;exact ht) hs.2
   · split at hs
     · simp only[Bool.and_eq_true]at hs;exact hk2 _ (by intro p hp t ht;simp only[List.mem_cons,List.not_mem_nil,or_false]at hp;rcases hp with rfl|rfl <;> exact vM ht) hs.2
     · split at hs
       · simp only[Bool.and_eq_true]at hs;exact hk2 _ (by intro p hp t ht;simp only[List.mem_cons,List.not_mem_nil,or_false]at hp;subst hp;exact vM ht) hs.2
       · split at hs
         · simp only[Bool.and_eq_true]at hs;exact hk2 _ (by intro p hp t ht;simp only[List.mem_cons,List.not_mem_nil,or_false]at hp;subst hp;exact vM ht) hs.2
         · rw[if_neg (by omega),if_neg (by omega),if_neg (by omega),if_neg (by omega)]at hs;cases hs
theorem QE {k n:Int} {s:ByteArray} {l:List Tree} (h:bP (.mk k n s l)=true) (hk:k=52\/k=53):∃ a b c d,l=[a,b,c,d]/\aM a=true/\bW b=true/\bW c=true/\aM d=true:=by
 rw[bP,if_neg (by omega),if_neg (by omega),if_neg (by omega),if_neg (by omega),if_neg (by omega),if_pos hk]at h;simp only[Bool.and_eq_true]at h;have hl:=uo _ _ h.2.1;obtain⟨a,b,c,d,rfl⟩:=aay hl;have h0:=nP _ _ h.2.1 0 (by simp) (by simp);have h3:=nP _ _ h.2.1 3 (by simp) (by simp);obtain⟨g1,e1⟩:=o5 _ 1 h.2.2.1;obtain⟨g2,e2⟩:=o5 _ 2 h.2.2.2;exact⟨a,b,c,d,rfl,h0,e1,e2,h3⟩
theorem Zn {k n:Int} {s:ByteArray} {l:List Tree} (h:bP (.mk k n s l)=true) (hk:k=54):∃ a b c,l=[a,b,c]/\aM a=true/\bW b=true/\aM c=true:=by
 rw[bP,if_neg (by omega),if_neg (by omega),if_neg (by omega),if_neg (by omega),if_neg (by omega),if_neg (by omega),if_pos hk]at h;simp only[Bool.and_eq_true]at h;have hl:=uo _ _ h.2.1;obtain⟨a,b,c,rfl⟩:=aax hl;have h0:=nP _ _ h.2.1 0 (by simp) (by simp);have h2:=nP _ _ h.2.1 2 (by simp) (by simp);obtain⟨g1,e1⟩:=o5 _ 1 h.2.2;exact⟨a,b,c,rfl,h0,e1,h2⟩
theorem ZL {k n:Int} {s:ByteArray} {l:List Tree} (h:bP (.mk k n s l)=true) (hk:k=55):∃ a,l=[a]/\bW a=true:=by
 rw[bP,if_neg (by omega),if_neg (by omega),if_neg (by omega),if_neg (by omega),if_neg (by omega),if_neg (by omega),if_neg (by omega),if_pos hk]at h;simp only[Bool.and_eq_true]at h;have hl:l.length=1:=by simpa using h.2.1
 obtain⟨a,rfl⟩:=aaw hl;obtain⟨g1,e1⟩:=o5 _ 0 h.2.2;exact⟨a,rfl,e1⟩
theorem Yt (f:az) (procs:List aU):∀ (m:Nat) (t:Tree),SizeOf.sizeOf t<=m->dZ t=false ->
 (bP t=true->(fw f procs t).refs.length=sG t)/\(bW t=true->(aV f procs t).refs.length=sG t):=by
 intro m
 induction m with
 |zero=>intro t hm;cases t;simp at hm
 |succ m ih =>
  intro t hm hset;obtain⟨k,n,s,l⟩:=t;have hsz:∀ t∈l,SizeOf.sizeOf t<=m:=λt ht=>by
   have:=List.sizeOf_lt_of_mem ht;simp only[Tree.mk.sizeOf_spec]at hm;omega
  rw[yP,BN,Bool.or_eq_false_iff]at hset;have hks:∀ t∈l,dZ t=false:=λt ht=>by
   have:=List.any_eq_false.1 hset.2 t ht
   simpa using this
  have qP:k≠56:=by have:=hset.1;simpa using this
  constructor
  · intro hs;have hk:=Pm hs;rw[nC,JF];by_cases hlt:k<50
    · have hnc:¬ (k=50\/k=51):=by omega
      rw[XE hs hlt,if_neg hnc];have hu:=λop=>Om f (l.getD 0 dx) (l.getD 1 dx) op;have hsw:=PR f (l.getD 0 dx) (l.getD 1 dx);have hmv:=λi=>PQ f (l.getD 0 dx) i;by_cases uU:k=40
      · rw[if_pos uU];exact(hu 1).2
      rw[if_neg uU];by_cases uV:k=41
      · rw[if_pos uV];exact(hu 2).2
      rw[if_neg uV];by_cases uW:k=42
      · rw[if_pos uW];exact(hu 3).2
      rw[if_neg uW];by_cases h43:k=43
      · rw[if_pos h43];exact hsw.2
      rw[if_neg h43];by_cases oq:k=44
      · rw[if_pos oq];exact(hmv _).2
      rw[if_neg oq];by_cases h45:k=45
      · rw[if_pos h45];exact(hmv _).2
      rw[if_neg h45];by_cases h46:k=46
      · rw[if_pos h46];exact(hmv _).2
      rw[if_neg h46];by_cases h47:k=47
      · rw[if_pos h47];exact(hmv _).2
      rw[if_neg h47];by_cases h48:k=48
      · rw[if_pos h48];exact(hmv _).2
      rw[if_neg h48,if_pos (by omega)];exact(hmv _).2
    · rw[if_neg (show ¬ k=40 by omega),if_neg (show ¬ k=41 by omega),if_neg (show ¬ k=42 by omega),if_neg (show ¬ k=43 by omega),if_neg (show ¬ k=44 by omega),if_neg (show ¬ k=45 by omega),if_neg (show ¬ k=46 by omega),if_neg (show ¬ k=47 by omega),if_neg (show ¬ k=48 by omega),if_neg (show ¬ k=49 by omega)];by_cases tJ:k=52
      · obtain⟨a,b,c,d,rfl,ha,hb,hc,hd⟩:=QE hs (.inl tJ);rw[if_pos tJ,if_neg (show ¬ (k=50\/k=51) by omega),(NQ _ _ _ _ _).2];simp only[jd,List.getD_cons_zero,List.getD_cons_succ,yJ,xE ha,xE hd,Ew];rw[(ih b (hsz b (by simp)) (hks b (by simp))).2 hb,(ih c (hsz c (by simp)) (hks c (by simp))).2 hc];omega
      rw[if_neg tJ];by_cases tK:k=53
      · obtain⟨a,b,c,d,rfl,ha,hb,hc,hd⟩:=QE hs (.inr tK);rw[if_pos tK,if_neg (show ¬ (k=50\/k=51) by omega),(O8 _ _ _ _ _).2];simp only[jd,List.getD_cons_zero,List.getD_cons_succ,yJ,xE ha,xE hd,Ew];rw[(ih b (hsz b (by simp)) (hks b (by simp))).2 hb,(ih c (hsz c (by simp)) (hks c (by simp))).2 hc];omega
      rw[if_neg tK];by_cases jJ:k=54
      · obtain⟨a,b,c,rfl,ha,hb,hc⟩:=Zn hs jJ;rw[if_pos jJ,if_neg (show ¬ (k=50\/k=51) by omega),(Oo _ _ _ _ _).2];simp only[jd,List.getD_cons_zero,List.getD_cons_succ,yJ,xE ha,xE hc,Ew];rw[(ih b (hsz b (by simp)) (hks b (by simp))).2 hb];omega
      rw[if_neg jJ];by_cases jK:k=55
      · obtain⟨a,rfl,ha⟩:=ZL hs jK;rw[if_pos jK,if_neg (show ¬ (k=50\/k=51) by omega),(Nt _ _ _).2];simp only[jd,List.getD_cons_zero,yJ,Ew];rw[(ih a (hsz a (by simp)) (hks a (by simp))).2 ha];omega
      rw[if_neg jK,if_pos (show k=50\/k=51 by omega),Yr,NH l (λt ht=>by
       have hv:=JE hs (by omega) t ht;simp only[mh,Bool.and_eq_true]at hv;exact xE hv.2)]
  · intro hb;obtain⟨hk,hst⟩:=yQ hb;simp only[Tree.kind,Tree.kids]at hk hst;rw[JF,if_neg (show ¬ (k=50\/k=51) by omega),aV,Jf,Jq];have key:∀ r:List Tree,(∀ t∈r,t∈l)->((r.map (fw f procs)).map λp=>p.refs.length).sum=uH r:=by
     intro r
     induction r with
     |nil=>intro _;rfl
     |cons a r ihr =>
      intro h;have ha:=h a (by simp);obtain⟨j,hj,e⟩:=List.mem_iff_getElem.1 ha;have h1:=(ih a (hsz a ha) (hks a ha)).1 (by rw[← e];exact hst j hj);rw[List.map_cons,List.map_cons,List.sum_cons,h1,ihr (λt ht=>h t (by simp[ht])),yJ]
    exact key l (λ_ h=>h)
theorem XF (f:az) (t:Tree) (m:Nat) (h:(0<=f.cells/\f.cells<=512+m)/\(0<=f.stacks/\f.stacks<=32+m)):(0<=(addNode f t).cells/\(addNode f t).cells<=512+(m+1:Nat))/\(0<=(addNode f t).stacks/\(addNode f t).stacks<=32+(m+1:Nat)):=by
 unfold addNode;split
 · split
   · omega
   · simp only[gL];rw[if_neg (by decide),if_neg (by decide)];simp only;omega
 · split
   · split
     · omega
     · simp only[gL,if_true];omega
   · omega
theorem Ob:∀ (l:List Tree) (f:az) (m:Nat),((0<=f.cells/\f.cells<=512+m)/\(0<=f.stacks/\f.stacks<=32+m))->(0<=(l.foldl addNode f).cells/\(l.foldl addNode f).cells<=512+(m+l.length:Nat))/\(0<=(l.foldl addNode f).stacks/\(l.foldl addNode f).stacks<=32+(m+l.length:Nat))
 | [],f,m,h=>by simpa using h
 |t :: l,f,m,h=>by
  have:=Ob l (addNode f t) (m+1) (XF f t m h);rw[List.foldl_cons,List.length_cons];omega
theorem Z4 (vars:List aA) (body:Tree) (hv:gN vars=true) (hs:bA body<=80):yG (mK vars body):=by
 have h1:=Iq vars vars.length hv;rw[List.take_length]at h1;have h2:=Ob (dD body) (frameC vars) 0 (by have:=h1.1.1;have:=h1.1.2.1;omega);have h3:=(Ke vars (dD body) hv).1;rw[AB]at h2 h3;refine⟨h2.1.1,by have:=h2.1.2;unfold mK;omega,h2.2.1,by have:=h2.2.2;unfold mK;omega,λs k => ?_⟩;unfold aj;cases hf:au (mK vars body) s k with
 |none=>simp[noSlot]
 |some x =>
  have:=h3.2.2 x (List.mem_of_find?_eq_some hf);simp only[Option.getD_some];omega
theorem Jg {l:List aA} {n:Nat} (h:l.all aA.decl=true) (hl:l.length<=n) (hn:n<=32):gN l=true:=by
 unfold gN;rw[Bool.and_eq_true];refine⟨by simp;omega,List.all_eq_true.2 λv hv => ?_⟩;have:=List.all_eq_true.1 h v hv;simp only[aA.decl,Bool.and_eq_true]at this;exact this.2
theorem Yu (t:Tree) (i:Nat) (aB:List aA):∀ v∈aB,v∈kT t i aB:=λv hv=>by
 unfold kT;split
 · simp[hv]
 · split
   · simp[hv]
   · exact hv
theorem Zo (P:List aU) (vars:List aA):∀ (m:Nat) (t:Tree),SizeOf.sizeOf t<=m->(bP t=true\/bW t=true\/aM t=true)->∀ aB,(∀ v∈vars,v∈aB)->gP P t aB=0->∀ n∈dD t,clash vars n=false:=by
 intro m
 induction m with
 |zero=>intro t hm;cases t;simp at hm
 |succ m ih =>
  intro t hm hw aB hsub hv nd hnd;obtain⟨k,n,s,l⟩:=t;have hsz:∀ t∈l,SizeOf.sizeOf t<=m:=λt ht=>by
   have:=List.sizeOf_lt_of_mem ht;simp only[Tree.mk.sizeOf_spec]at hm;omega
  rw[gP]at hv;have hf:fu P k s l.length aB=0:=BO (by omega);rw[dD,List.mem_cons]at hnd;rcases hnd with rfl|hnd
  · unfold clash;simp only[Tree.kind,Tree.name];by_cases jJ:k=54\/k=55
    · have hfr:mi aB s=0:=by
       unfold fu at hf;rw[if_neg (by omega),if_neg (by omega),if_neg (by omega),if_pos jJ]at hf;exact hf
      have hno:vars.any (λv=>v.name == s)=false:=by
       refine List.any_eq_false.2 λv MV he => ?_;have:=Ir aB s ⟨v,hsub v MV,by simpa using he⟩;unfold mi at hfr;rw[if_pos this]at hfr;cases hfr
      rw[hno,Bool.and_false]
    · have:(k == 54 || k == 55)=false:=by simp;omega
      rw[this];rfl
  · obtain⟨t,ht,hnt⟩:∃ t∈l,nd∈dD t:=by
     clear hm hsz hv hf hw
     induction l with
     |nil=>simp[gF]at hnd
     |cons a l ihl =>
      simp only[gF,List.mem_append]at hnd;rcases hnd with h|h
      · exact⟨a,by simp,h⟩
      · obtain⟨t,ht,h⟩:=ihl h;exact⟨t,by simp[ht],h⟩
    obtain⟨j,hj,rfl⟩:=List.mem_iff_getElem.1 ht;by_cases h50:k=50\/k=51
    · have U7:mh l[j]=true:=by
       rcases hw with h|h|h
       · exact JE h h50 _ ht
       · have:=(yQ h).1;simp only[Tree.kind]at this;omega
       · have:=(BQ h).1;omega
      generalize l[j]=y at *;obtain⟨yk,yn,ys,yl⟩:=y;simp only[mh,Bool.and_eq_true,beq_iff_eq,Tree.kind]at U7;obtain⟨rfl,Ia⟩:=U7;rw[aM]at Ia;rw[if_neg (by decide),if_pos (by decide)]at Ia;simp only[Bool.and_eq_true]at Ia;have hl:yl=[]:=by simpa using Ia.2
      subst hl;simp only[dD,gF,List.mem_singleton]at hnt;subst hnt;rfl
    · rw[if_neg h50]at hv;have h1:=BP P k s l 0 aB (by omega) j hj;simp only[Nat.zero_add]at h1;refine ih l[j] (hsz _ ht) ?_ _ (λv hv=>Yu _ _ _ v (hsub v hv)) h1 nd hnt;rcases hw with h|h|h
      · rcases JD h h50 j hj with h2|h2
        · exact .inr (.inr h2)
        · exact .inr (.inl h2.1)
      · exact .inl ((yQ h).2 j hj)
      · exact .inr (.inr (Je (BQ h).2 j hj))
theorem Yv (procs:List aU) (hp:Ct procs) (vars:List aA) (body:Tree) (hv:gN vars=true) (hb:bW body=true) (hd:gG [] vars=0) (hc:gP procs body vars=0) (hs:bA body<=80) :
 mF vars body=0/\yG (mK vars body)/\(eT (mK vars body) procs body=if dZ body then 9 else 0)/\(dZ body=false->(aV (mK vars body) procs body).refs.length=sG body):=by
 have hdup:=JB vars [] hd;rw[List.map_nil]at hdup;have hg:xX (mK vars body) vars:=Xz vars (dD body) hdup;have hl:Cu (mK vars body) body:=OG (dD body) (frameC vars);refine⟨?_,Z4 vars body hv hs,(WI _ procs hp _ body (Nat.le_refl _) vars hg hl hc).2 hb,λh=>(Yt _ procs _ body (Nat.le_refl _) h).2 hb⟩;unfold mF;rw[hv,hb,hdup];have:(dD body).any (clash vars)=false:=List.any_eq_false.2 λn hn=>by
  rw[Zo procs vars _ body (Nat.le_refl _) (.inr (.inl hb)) vars (λv hv=>hv) hc n hn];simp
 rw[this];rfl
end Go.Proofs.YtnobahchcongnaaGreat
