import Derived.Test.YtnobahchcongnaaGreatDoorR30
set_option linter.unusedSimpArgs false
set_option linter.unusedVariables false
set_option maxRecDepth 100000
set_option maxHeartbeats 25600000
namespace Go.Proofs.YtnobahchcongnaaGreatDoor
open Go.RowKit Go.Instr
def Az (l:List (List Ins)):Nat:=(l.map List.length).sum
theorem aaN (l:List (List Ins)):(l.getD 0 []).length+(l.getD 1 []).length<=Az l:=by
 match l with
 | []=>simp[Az]
 | [a]=>simp[Az]
 |a :: b :: l=>simp only[Az,List.map_cons,List.sum_cons,List.getD_cons_zero,List.getD_cons_succ];omega
mutual
theorem Rb (f:ax):∀ (t:Tree) (p:Int),(iP f t p).length<=10 * aI t
 |.mk k n s l,p=>by
  have h:=Qz f l p;have h2:=aaN (jw f l p);rw[iP,aI];generalize (jw f l p).getD 0 []=a at *;generalize (jw f l p).getD 1 []=b at *;split
  · simp;omega
  split
  · simp;omega
  split
  · simp;omega
  split
  · simp;omega
  split
  · simp;omega
  split
  · simp;omega
  · simp;omega
theorem Qz (f:ax):∀ (l:List Tree) (p:Int),Az (jw f l p)<=10 * cu l
 | [],p=>by simp[jw,Az]
 |t :: l,p=>by
  have h1:=Rb f t p;have h2:=Qz f l (p+1);simp only[jw,Az,cu,List.map_cons,List.sum_cons]at *;omega
end
theorem nk (f:ax) (t:Tree):(bW f t).length<=10 * aI t:=Rb f t 0
mutual
theorem K6:∀ (t:Tree),iL t<=aI t
 |.mk k n s l=>by
  have:=QA l;rw[iL,aI];omega
theorem QA:∀ (l:List Tree),jT l<=cu l
 | []=>by simp[jT]
 |t :: l=>by
  have h1:=K6 t;have h2:=QA l;rw[jT,cu];omega
end
mutual
theorem QB (f:ax) (procs:List bQ):∀ (t:Tree),aN t=true->dz f procs t=true->bK f t=true
 |.mk k n s l,he,hn=>by
  have ih:=P7 f procs l;have hk:k≠50/\k≠51/\k≠54/\k≠44/\k≠45/\k≠55:=by
   refine⟨?_,?_,?_,?_,?_,?_⟩ <;> (intro e;subst e;simp[aN]at he)
  have hl:jv l=true:=by
   rw[aN]at he
   repeat' split at he
   all_goals first
    |(simp only[Bool.and_eq_true,List.isEmpty_iff]at he;rw[he.2.2];rfl)
    |(simp only[Bool.and_eq_true,List.isEmpty_iff]at he;rw[he.2];rfl)
    |(simp only[Bool.and_eq_true]at he;exact he.2.2)
    |cases he
  rw[dz]at hn;rw[bK];by_cases h2:k=2
  · rw[if_pos (.inl h2),Bool.and_eq_true]at hn;rw[if_pos h2,Bool.and_eq_true];exact⟨hn.1,ih hl hn.2⟩
  rw[if_neg (by omega)]at hn;rw[if_neg h2];by_cases h3:k=3
  · rw[if_pos h3,Bool.and_eq_true]at hn;rw[if_pos h3,Bool.and_eq_true];exact⟨hn.1,ih hl hn.2⟩
  rw[if_neg h3]at hn;rw[if_neg h3];by_cases h4:k=4\/k=5
  · rw[if_pos (by omega),Bool.and_eq_true]at hn;rw[if_pos h4,Bool.and_eq_true];exact⟨hn.1,ih hl hn.2⟩
  · rw[if_neg (by omega),if_neg (by omega)]at hn;rw[if_neg h4];exact ih hl hn
theorem P7 (f:ax) (procs:List bQ):∀ (l:List Tree),jv l=true->mM f procs l=true->kD f l=true
 | [],_,_=>by simp[kD]
 |t :: l,he,hn=>by
  have h1:=QB f procs t;have h2:=P7 f procs l;simp only[jv,mM,kD,Bool.and_eq_true,Bool.or_eq_true]at he hn ⊢;refine⟨h1 he.1 (hn.1.elim (λe => ?_) id),h2 he.2 hn.2⟩;exfalso;obtain⟨k,n,s,r⟩:=t;have e57:k=57:=by simpa[Tree.kind]using e
  subst e57;have:=he.1;simp[aN]at this
end
theorem nE.of (f:ax) (procs:List bQ) (t:Tree) (he:aN t=true) (hn:dz f procs t=true) (hs:aI t<=2000):nE f t :=
 ⟨he,QB f procs t he hn,by have:=K6 t;omega,by have:=nk f t;omega⟩
theorem vg:∀ (l:List Tree) (i:Nat) (h:i<l.length),aI l[i]<=cu l
 |t :: l,0,_=>by simp[cu]
 |t :: l,i+1,h=>by
  have:=vg l i (by simpa using h);simp[cu];omega
theorem size_pos (t:Tree):1<=aI t:=by cases t;rw[aI];omega
theorem aa7 (l:List Tree) (i:Nat):aI (l.getD i dx)<=1+cu l:=by
 rw[List.getD_eq_getElem?_getD];by_cases h:i<l.length
 · rw[List.getElem?_eq_getElem h];have:=vg l i h;simp only[Option.getD_some];omega
 · rw[List.getElem?_eq_none (by omega)];simp[dx,aI,cu]
theorem nV (t:Tree) (i:Nat):aI (t.kid i)<=aI t:=by
 obtain⟨k,n,s,l⟩:=t;have:=aa7 l i;rw[aI];exact this
def mJ (l:List Tree) (i:Nat):Nat:=match l[i]? with
 |some t=>aI t
 |none=>0
theorem RL (l:List Tree):mJ l 0+mJ l 1+mJ l 2+mJ l 3<=cu l:=by
 match l with
 | []=>simp[mJ]
 | [a]=>simp[mJ,cu]
 | [a,b]=>simp[mJ,cu]
 | [a,b,c]=>simp[mJ,cu];omega
 |a :: b :: c :: d :: l=>simp[mJ,cu];omega
theorem Hy (l:List Tree) (i:Nat):aI (l.getD i dx)<=mJ l i+1:=by
 rw[List.getD_eq_getElem?_getD,mJ];cases h:l[i]? with
 |none=>simp[dx,aI,cu]
 |some t=>simp
theorem QC (f:ax) (p:Tree) (list:Ins->aB) (c:Nat) (hl:∀ i,(list i).code.length<=c/\(list i).refs.length=0) :
 (vG f p list).code.length<=20 * aI p+2+c/\(vG f p list).refs.length=0:=by
 unfold vG;split
 · have:=hl ⟨10,5,aj f p.name 1,0,0⟩;omega
 · have h1:=kT f (p.kid 0) (list (bX f p 5 4));have h2:=nk f (p.kid 0);have h3:=nV p 0;have:=hl (bX f p 5 4);omega
theorem _i (f:ax) (p:Tree) (i:Ins):(moveC f p i).code.length<=20 * aI p+5/\(moveC f p i).refs.length=0 :=
 QC f p _ 3 (λi=>by simp[ah])
theorem YM (f:ax) (p e:Tree) (op:Int):(kU f p e op).code.length<=20 * aI p+20 * aI e+20/\(kU f p e op).refs.length=0:=by
 have h2:=nk f e;unfold kU;split
 · have h1:=kT f e (ah [⟨10,5,aj f p.name 1,0,0⟩,⟨op,5,4,0,0⟩,⟨10,5,aj f p.name 1,0,0⟩]);simp only[ah,List.length_cons,List.length_nil]at h1;simp only[ah];omega
 · have h3:=nk f (p.kid 0);have h4:=nV p 0;have h1:=kT f e (ah [bX f p 6 5,⟨op,6,4,0,0⟩,bX f p 6 5]);have h5:=kT f (p.kid 0) (aL [fP,aD f e (ah [bX f p 6 5,⟨op,6,4,0,0⟩,bX f p 6 5]),fP]);rw[(dI _).1]at h5;simp only[aO,List.map_cons,List.map_nil,List.sum_cons,List.sum_nil,h1.1]at h5;simp only[ah,fP,List.length_cons,List.length_nil]at h5 ⊢;omega
theorem QD (f:ax) (p q:Tree):(rV f p q).code.length<=20 * aI q+5/\(rV f p q).refs.length=0:=by
 unfold rV;split
 · simp[cB]
 · exact QC f q _ 3 (λi=>by simp[ah])
theorem _j (f:ax) (p q:Tree):(jB f p q).code.length<=20 * aI p+20 * aI q+20/\(jB f p q).refs.length=0:=by
 unfold jB;split
 · have h3:=nk f (p.kid 0);have h4:=nV p 0;have h6:=nk f (q.kid 0);have h7:=nV q 0;have h1:=kT f (q.kid 0) (dH f p q);have h2:=Dq f p q;have h5:=kT f (p.kid 0) (aL [fP,aD f (q.kid 0) (dH f p q),fP]);rw[(dI _).1]at h5;simp only[aO,List.map_cons,List.map_nil,List.sum_cons,List.sum_nil,h1.1]at h5;simp only[ah,fP,List.length_cons,List.length_nil]at h5 ⊢;omega
 · split
   · have:=QD f q p;omega
   · have:=QD f p q;omega
theorem yB (f:ax) (e:Tree):(dW f e).code.length=2 * (bW f e).length+3/\(dW f e).refs.length=0:=by
 have h:=kT f e (ah [⟨9,0,4,5,17⟩]);unfold dW;simp only[ah,List.length_cons,List.length_nil]at h ⊢;omega
theorem PN (f:ax) (e1 e2:Tree) (s t:aB):(rT f e1 s t e2).code.length=2 * (bW f e1).length+2 * (bW f e2).length+14+s.code.length+t.code.length/\(rT f e1 s t e2).refs.length=s.refs.length+t.refs.length:=by
 have h1:=yB f e1;have h2:=yB f e2;unfold rT;simp only[];rw[(tH _ _ _).1,(tH _ _ _).1,(tH _ _ _).2,(tH _ _ _).2,(dI _).1,(dI _).2];simp only[aO,bV,List.map_cons,List.map_nil,List.sum_cons,List.sum_nil,h1.1,h1.2,h2.1,h2.2];simp only[ah,List.length_cons,List.length_nil];omega
theorem QE (f:ax) (e1 e2:Tree) (s t:aB):(rZ f e1 s t e2).code.length=2 * (bW f e1).length+2 * (bW f e2).length+14+s.code.length+t.code.length/\(rZ f e1 s t e2).refs.length=s.refs.length+t.refs.length:=by
 have h1:=yB f e1;have h2:=yB f e2;unfold rZ;simp only[];rw[(tH _ _ _).1,(tH _ _ _).1,(tH _ _ _).2,(tH _ _ _).2,(dI _).1,(dI _).2];simp only[aO,bV,List.map_cons,List.map_nil,List.sum_cons,List.sum_nil,h1.1,h1.2,h2.1,h2.2];simp only[ah,List.length_cons,List.length_nil];omega
theorem YO (f:ax) (name:ByteArray) (e1 e2:Tree) (s:aB):(lJ f name e1 s e2).code.length=2 * (bW f e1).length+2 * (bW f e2).length+12+s.code.length/\(lJ f name e1 s e2).refs.length=s.refs.length:=by
 unfold lJ;rw[(dI _).1,(dI _).2];simp only[aO,bV,List.map_cons,List.map_nil,List.sum_cons,List.sum_nil,(kT _ _ _).1,(kT _ _ _).2];simp only[ah,List.length_cons,List.length_nil];omega
theorem WZ (f:ax) (name:ByteArray) (s:aB):(lG f name s).code.length=6+s.code.length/\(lG f name s).refs.length=s.refs.length:=by
 unfold lG;rw[(dI _).1,(dI _).2];simp only[aO,bV,List.map_cons,List.map_nil,List.sum_cons,List.sum_nil];simp only[Ac,ah,List.length_cons,List.length_nil];omega
theorem Gq (a b:List aB):aO (a ++ b)=aO a+aO b/\bV (a ++ b)=bV a+bV b:=by simp[aO,bV]
theorem P8 (a:List aB):aO a.reverse=aO a/\bV a.reverse=bV a:=by
 constructor <;> simp[aO,bV,List.sum_reverse]
theorem aap (f:ax) (x:Int) (s:dA) (hs:s.len<=16):aO (pF f x s)<=48/\bV (pF f x s)=0/\(pF f x s).length<=16:=by
 unfold pF;split
 · simp[aO,bV,ah]
 · have h:∀ n:Nat,aO ((List.range n).map λ(j:Nat)=>ah [⟨10,5,x+j,0,0⟩,⟨10,5,f.cells+s.at'+j,0,0⟩,⟨10,5,x+j,0,0⟩])=3 * n/\bV ((List.range n).map λ(j:Nat)=>ah [⟨10,5,x+j,0,0⟩,⟨10,5,f.cells+s.at'+j,0,0⟩,⟨10,5,x+j,0,0⟩])=0:=by
    intro n
    induction n with
    |zero=>simp[aO,bV]
    |succ n ih =>
     rw[List.range_succ,List.map_append,(Gq _ _).1,(Gq _ _).2,ih.1,ih.2];simp[aO,bV,ah];omega
   rw[(h _).1,(h _).2];simp only[List.length_map,List.length_range];generalize hm:(if s.kind=2 then s.len.toNat else 1)=m;have:m<=16:=by rw[← hm];split <;> omega
   exact⟨by omega,trivial,by omega⟩
theorem K7 (f:ax):∀ (kids:List Tree) (slots:List dA),(∀ s∈slots,s.len<=16)->aO (ji f kids slots)<=48 * kids.length/\bV (ji f kids slots)=0/\(ji f kids slots).length<=16 * kids.length
 | [],slots,_=>by simp[ji,aO,bV]
 |t :: kids,[],_=>by simp[ji,aO,bV]
 |t :: kids,s :: slots,h=>by
  have ih:=K7 f kids slots (λx hx=>h x (List.mem_cons_of_mem _ hx));have h1:=aap f (aj f t.name s.kind) s (h s (by simp));have e:ji f (t :: kids) (s :: slots)=pF f (aj f t.name s.kind) s ++ ji f kids slots:=by simp[ji]
  rw[e,(Gq _ _).1,(Gq _ _).2];simp only[List.length_append,List.length_cons];omega
theorem Gc:∀ (l:List Tree),l.length<=cu l
 | []=>by simp
 |t :: l=>by
  have:=Gc l;have:=size_pos t;rw[cu,List.length_cons];omega
theorem _k (f:ax) (procs:List bQ) (op:Int) (name:ByteArray) (kids:List Tree) (hp:∀ x∈(frameC (((tV procs name).map bQ.params).getD [])).slots,x.len<=16) :
 (si f procs op name kids).code.length<=96 * kids.length+3/\(si f procs op name kids).refs.length=1:=by
 have h:=K7 f kids _ hp;unfold si;dsimp only;generalize ji f kids _=A at *;have h5:∀ (a b c d e:aB),aO [a,b,c,d,e]=a.code.length+b.code.length+c.code.length+d.code.length+e.code.length/\bV [a,b,c,d,e]=a.refs.length+b.refs.length+c.refs.length+d.refs.length+e.refs.length:=by
  intro a b c d e;simp[aO,bV];omega
 have hr:=P8 A;rw[(dI _).1,(dI _).2,(h5 _ _ _ _ _).1,(h5 _ _ _ _ _).2,(dI _).1,(dI _).2,(dI _).1,(dI _).2];simp only[ah,List.length_cons,List.length_nil];omega
theorem eD (f:ax) (procs:List bQ) (k n:Int) (s:ByteArray) (l:List Tree):dX f procs (.mk k n s l)=(if k=40 then kU f (l.getD 0 dx) (l.getD 1 dx) 1 else if k=41 then kU f (l.getD 0 dx) (l.getD 1 dx) 2 else if k=42 then kU f (l.getD 0 dx) (l.getD 1 dx) 3 else if k=43 then jB f (l.getD 0 dx) (l.getD 1 dx)else if k=44 then moveC f (l.getD 0 dx) ⟨12,5,aj f s 3,0,0⟩else if k=45 then moveC f (l.getD 0 dx) ⟨13,5,aj f s 3,0,0⟩else if k=46 then moveC f (l.getD 0 dx) ⟨17,5,0,0,0⟩else if k=47 then moveC f (l.getD 0 dx) ⟨18,5,0,0,0⟩else if k=48 then moveC f (l.getD 0 dx) ⟨19,5,0,0,0⟩else if k=49 then moveC f (l.getD 0 dx) ⟨20,5,0,0,0⟩else if k=52 then rT f (l.getD 0 dx) ((eY f procs l).getD 1 cB) ((eY f procs l).getD 2 cB) (l.getD 3 dx)else if k=53 then rZ f (l.getD 0 dx) ((eY f procs l).getD 1 cB) ((eY f procs l).getD 2 cB) (l.getD 3 dx)else if k=54 then lJ f s (l.getD 0 dx) ((eY f procs l).getD 1 cB) (l.getD 2 dx)else if k=55 then lG f s ((eY f procs l).getD 0 cB)else si f procs (if k=51 then 31 else 30) s l):=by rw[dX]
def Cz (procs:List bQ):Prop:=∀ s,∀ x∈(frameC (((tV procs s).map bQ.params).getD [])).slots,x.len<=16
mutual
theorem K8 (f:ax) (procs:List bQ) (hp:Cz procs):∀ (t:Tree),(dX f procs t).code.length<=800 * aI t/\(dX f procs t).refs.length<=aI t
 |.mk k n s l=>by
  have hb:=Kn f procs hp l;have hs:=RL l;have h0:=Hy l 0;have h1:=Hy l 1;have h2:=Hy l 2;have h3:=Hy l 3;have c0:=nk f (l.getD 0 dx);have c2:=nk f (l.getD 2 dx);have c3:=nk f (l.getD 3 dx);have b0:=hb 0;have b1:=hb 1;have b2:=hb 2;have hl:=Gc l;rw[eD,aI];generalize (eY f procs l).getD 0 cB=p0 at *;generalize (eY f procs l).getD 1 cB=p1 at *;generalize (eY f procs l).getD 2 cB=p2 at *;have hu:=λop=>YM f (l.getD 0 dx) (l.getD 1 dx) op;have hsw:=_j f (l.getD 0 dx) (l.getD 1 dx);have hm:=λi=>_i f (l.getD 0 dx) i;have hch:=PN f (l.getD 0 dx) (l.getD 3 dx) p1 p2;have hlo:=QE f (l.getD 0 dx) (l.getD 3 dx) p1 p2;have hlc:=YO f s (l.getD 0 dx) (l.getD 2 dx) p1;have hls:=WZ f s p0;by_cases uz:k=40
  · rw[if_pos uz];have:=hu 1;omega
  rw[if_neg uz];by_cases uA:k=41
  · rw[if_pos uA];have:=hu 2;omega
  rw[if_neg uA];by_cases uB:k=42
  · rw[if_pos uB];have:=hu 3;omega
  rw[if_neg uB];by_cases h43:k=43
  · rw[if_pos h43];omega
  rw[if_neg h43];by_cases oq:k=44
  · rw[if_pos oq];have:=hm ⟨12,5,aj f s 3,0,0⟩;omega
  rw[if_neg oq];by_cases h45:k=45
  · rw[if_pos h45];have:=hm ⟨13,5,aj f s 3,0,0⟩;omega
  rw[if_neg h45];by_cases h46:k=46
  · rw[if_pos h46];have:=hm ⟨17,5,0,0,0⟩;omega
  rw[if_neg h46];by_cases h47:k=47
  · rw[if_pos h47];have:=hm ⟨18,5,0,0,0⟩;omega
  rw[if_neg h47];by_cases h48:k=48
  · rw[if_pos h48];have:=hm ⟨19,5,0,0,0⟩;omega
  rw[if_neg h48];by_cases vU:k=49
  · rw[if_pos vU];have:=hm ⟨20,5,0,0,0⟩;omega
  rw[if_neg vU];by_cases vV:k=52
  · rw[if_pos vV];omega
  rw[if_neg vV];by_cases vW:k=53
  · rw[if_pos vW];omega
  rw[if_neg vW];by_cases ou:k=54
  · rw[if_pos ou];omega
  rw[if_neg ou];by_cases mr:k=55
  · rw[if_pos mr];omega
  rw[if_neg mr];have:=_k f procs (if k=51 then 31 else 30) s l (hp s);omega
theorem GM (f:ax) (procs:List bQ) (hp:Cz procs):∀ (t:Tree),(aQ f procs t).code.length<=800 * aI t/\(aQ f procs t).refs.length<=aI t
 |.mk k n s l=>by
  have h:=KM f procs hp l;rw[aQ,aI,(dI _).1,(dI _).2];omega
theorem KM (f:ax) (procs:List bQ) (hp:Cz procs):∀ (l:List Tree),aO (qE f procs l)<=800 * cu l/\bV (qE f procs l)<=cu l
 | []=>by simp[qE,aO,bV]
 |t :: l=>by
  have h1:=K8 f procs hp t;have h2:=KM f procs hp l;simp only[qE,cu,aO,bV,List.map_cons,List.sum_cons]at *;omega
theorem Kn (f:ax) (procs:List bQ) (hp:Cz procs):∀ (l:List Tree) (i:Nat),((eY f procs l).getD i cB).code.length<=800 * mJ l i/\((eY f procs l).getD i cB).refs.length<=mJ l i
 | [],i=>by simp[eY,cB,mJ]
 |t :: l,0=>by
  have h1:=GM f procs hp t
  simpa[eY,mJ]using h1
 |t :: l,i+1=>by
  have h1:=Kn f procs hp l i
  simpa[eY,mJ]using h1
end
theorem wrap_wrap (a b c:Int):wrap64 (wrap64 (a+b)+c)=wrap64 (a+(b+c)):=by
 unfold wrap64;omega
theorem mK (i:Ins) (t:Int):(i.bN t).op=i.op:=by
 unfold Ins.bN;split;rfl;split <;> rfl
theorem Rc {op:Int} (h:bH op=true):kZ op=true\/(kZ op=false/\mi op=true):=by
 simp only[bH,fU,gz,Bool.or_eq_true,beq_iff_eq]at h;rcases h with(rfl|rfl|rfl)|rfl|rfl|rfl <;> decide
theorem rM {i:Ins} (h:bH i.op=true) (t:Int):(i.bN t).target=t:=by
 unfold Ins.target;rw[mK];unfold Ins.bN;rcases Rc h with h1|⟨h1,h2⟩
 · simp[h1]
 · simp[h1,h2]
theorem wJ (i:Ins) (t u:Int):(i.bN t).bN u=i.bN u:=by
 unfold Ins.bN;by_cases h1:kZ i.op=true
 · simp[h1]
 · by_cases h2:mi i.op=true
   · simp[h1,h2]
   · simp[h1,h2]
theorem vo (i:Ins) (a:Int):(i.shift a).op=i.op:=by
 unfold Ins.shift;split
 · exact mK _ _
 · rfl
theorem XW (i:Ins) (a b:Int):(i.shift a).shift b=i.shift (a+b):=by
 by_cases h:bH i.op=true
 · have h1:i.shift a=i.bN (wrap64 (i.target+a)):=by unfold Ins.shift;rw[if_pos h]
   have h2:i.shift (a+b)=i.bN (wrap64 (i.target+(a+b))):=by unfold Ins.shift;rw[if_pos h]
   rw[h2];unfold Ins.shift;rw[if_pos (by rw[show(if bH i.op=true then i.bN (wrap64 (i.target+a))else i)=i.shift a from rfl,vo];exact h)];rw[if_pos h,rM h,wJ,wrap_wrap]
 · have h1:∀ c,i.shift c=i:=λc=>by unfold Ins.shift;rw[if_neg h]
   rw[h1,h1,h1]
theorem Xk (l:List Ins) (a b:Int):bR (bR l a) b=bR l (a+b):=by
 simp only[bR,List.map_map];exact List.map_congr_left λi _=>XW i a b
theorem Xl (l m:List Ins) (a:Int):bR (l ++ m) a=bR l a ++ bR m a:=by simp[bR]
theorem Xw (r:aV) (a b:Int):(r.shift a).shift b=r.shift (a+b):=by
 simp only[aV.shift,wrap_wrap]
theorem XX (p q r:aB):eF (eF p q) r=eF p (eF q r):=by
 have hl:((p.code ++ bR q.code p.code.length).length:Int)=(q.code.length:Int)+(p.code.length:Int):=by
  rw[List.length_append,tq];omega
 simp only[eF,aB.mk.injEq];constructor
 · rw[hl,Xl,Xk,List.append_assoc]
 · rw[hl,List.map_append,List.map_map,List.append_assoc];congr 2;exact List.map_congr_left λx _=>(Xw x _ _).symm
theorem YP (p:aB):eF p cB=p:=by
 simp[eF,cB,bR]
theorem aa8 (l:List aB):∀ (p x:aB),l.foldl eF (eF p x)=eF p (l.foldl eF x):=by
 induction l with
 |nil=>intro p x;rfl
 |cons b l ih=>intro p x;rw[List.foldl_cons,List.foldl_cons,XX,ih]
theorem YQ (l:List aB) (p:aB):eF p (l.foldl eF cB)=l.foldl eF p:=by
 rw[← aa8,YP]
theorem Gr (p:aB) (l:List aB):aL (p :: l)=eF (eF cB p) (aL l):=by
 unfold aL;rw[List.foldl_cons,YQ]
def iw (op:Int):Bool:=op == 30 || op == 31
def dD:List Ins->Nat->List Int
 | [],_=>[]
 |x :: l,o=>if iw x.op then(o:Int) :: dD l (o+1)else dD l (o+1)
theorem Df:∀ (l m:List Ins) (o:Nat),dD (l ++ m) o=dD l o ++ dD m (o+l.length)
 | [],m,o=>by simp[dD]
 |x :: l,m,o=>by
  simp only[List.cons_append,dD,Df l m (o+1),List.length_cons];rw[show o+1+l.length=o+(l.length+1) by omega];split <;> rfl
theorem Pw (a:Int):∀ (l:List Ins) (o:Nat),dD (bR l a) o=dD l o
 | [],o=>rfl
 |x :: l,o=>by
  have:=Pw a l (o+1);simp only[bR,List.map_cons]at this ⊢;simp only[dD,vo,this]
theorem Ko (n:Nat):∀ (l:List Ins) (o:Nat),dD l (o+n)=(dD l o).map (· + (n:Int))
 | [],o=>rfl
 |x :: l,o=>by
  have:=Ko n l (o+1);rw[show o+1+n=o+n+1 by omega]at this;simp only[dD,this];split
  · simp
  · rfl
theorem Dr:∀ (l:List Ins) (o:Nat),∀ c∈dD l o,(o:Int)<=c/\c<(o:Int)+l.length
 | [],o,c,h=>by simp[dD]at h
 |x :: l,o,c,h=>by
  have ih:=Dr l (o+1);simp only[dD]at h;rw[List.length_cons];split at h
  · rcases List.mem_cons.1 h with rfl|h
    · omega
    · have:=ih c h;omega
  · have:=ih c h;omega
theorem P9:∀ (l:List Ins) (o i:Nat) (x:Ins),l[i]? = some x->(((o+i:Nat):Int)∈dD l o↔iw x.op=true)
 | [],o,i,x,h=>by simp at h
 |y :: l,o,0,x,h=>by
  simp at h;subst h;simp only[dD,Nat.add_zero];split
  · simp[*]
  · constructor
    · intro hm;have:=Dr l (o+1) _ hm;omega
    · intro hc;exact absurd hc (by assumption)
 |y :: l,o,i+1,x,h=>by
  have ih:=P9 l (o+1) i x (by simpa using h);rw[show o+1+i=o+(i+1) by omega]at ih;simp only[dD];split
  · rw[List.mem_cons,ih];constructor
    · rintro(h|h)
      · omega
      · exact h
    · exact .inr
  · exact ih
def pW (x y:Ins):Prop:=(fU x.op=true/\gz y.op=true)\/(gz x.op=true/\fU y.op=true)
theorem pW.symm {x y:Ins} (h:pW x y):pW y x:=h.elim (λh => .inr ⟨h.2,h.1⟩) (λh => .inl ⟨h.2,h.1⟩)
structure gY (S:Nat->Prop) (p:aB):Prop where
 op:∀ x∈p.code,0<=x.op/\x.op<32
 val:∀ i x,p.code[i]? = some x->¬ S i->x.gT=true
 ex:∀ i,S i->∃ x,p.code[i]? = some x/\bH x.op=true/\In64 x.target/\∀ t,0<=t->t<65536->(x.bN t).gT=true
 wG:∀ i x,p.code[i]? = some x->¬ S i->bH x.op=true->(∃ j y,¬ S j/\p.code[j]? = some y/\x.target=(j:Int)/\y.target=(i:Int)/\pW x y)/\∀ t,0<=t->t<65536->(x.bN t).gT=true
 ca:∀ x∈p.code,iw x.op=true->x.a=0
 refs:p.refs.map aV.at'=dD p.code 0
theorem Pn {x:Ins} (h:bH x.op=true):x.bN x.target=x:=by
 unfold Ins.bN Ins.target;rcases Rc h with h1|⟨h1,h2⟩
 · simp[h1]
 · simp[h1,h2]
theorem mO {n:Int} (h:In64 n):wrap64 n=n:=by
 unfold wrap64;simp only[In64]at h;omega
theorem aa9 {n:Nat} (h:n<=70000):In64 (n:Int):=by simp only[In64];omega
theorem gY.congr {S T:Nat->Prop} {p:aB} (h:gY S p) (he:∀ i,S i↔T i):gY T p:=by
 have:S=T:=funext λi=>propext (he i);rw[← this];exact h
theorem nu {α:Type} {l:List α} {i:Nat} {x:α} (h:l[i]? = some x):i<l.length:=(List.getElem?_eq_some_iff.1 h).1
theorem gY.none {S:Nat->Prop} {p:aB} (h:gY S p) (hl:p.code.length<=70000):eF cB p=p:=by
 have hc:bR p.code 0=p.code:=by
  refine List.ext_getElem? λi => ?_;unfold bR;rw[List.getElem?_map];rcases hx:p.code[i]? with _|x
  · rfl
  · simp only[Option.map_some,Option.some.injEq];unfold Ins.shift;split
    · rename_i hm;have h64:In64 x.target:=by
       by_cases hs:S i
       · obtain⟨y,hy,-,h4,-⟩:=h.ex i hs;rw[hx]at hy;obtain rfl:=Option.some.inj hy;exact h4
       · obtain⟨⟨j,y,-,hj,ht,-⟩,-⟩:=h.wG i x hx hs hm;rw[ht];exact aa9 (by have:=nu hj;omega)
      rw[Int.add_zero,mO h64,Pn hm]
    · rfl
 have hr:p.refs.map (λr=>r.shift 0)=p.refs:=by
  conv=>rhs;rw[← List.map_id p.refs]
  refine List.map_congr_left λr hr => ?_;have hm:r.at'∈dD p.code 0:=by rw[← h.refs];exact List.mem_map.2 ⟨r,hr,rfl⟩
  have:=Dr _ _ _ hm;obtain⟨a,n⟩:=r;simp only[aV.shift,Int.add_zero,id_eq,aV.mk.injEq,and_true];exact mO (by simp only[In64];simp only at this;omega)
 obtain⟨c,r⟩:=p;simp only[eF,cB,List.nil_append,List.length_nil]at *;rw[show((0:Nat):Int)=0 from rfl,hc,hr]
def Ad (n:Nat) (S T:Nat->Prop) (i:Nat):Prop:=(i<n/\S i)\/(n<=i/\T (i - n))
theorem gY.join {S T:Nat->Prop} {p q:aB} (hp:gY S p) (hq:gY T q) (hl:p.code.length+q.code.length<=65536):gY (Ad p.code.length S T) (eF p q):=by
 have hleft:∀ i,i<p.code.length->(eF p q).code[i]? = p.code[i]? := λi hi=>by rw[yA,List.getElem?_append_left hi]
 have hright:∀ i,(eF p q).code[p.code.length+i]? = (q.code[i]?).map (λx=>x.shift p.code.length):=λi=>by
  rw[yA,List.getElem?_append_right (by omega),bR,List.getElem?_map];congr 1;congr 1;omega
 have hsplit:∀ i x,(eF p q).code[i]? = some x->(i<p.code.length/\p.code[i]? = some x)\/(p.code.length<=i/\∃ y,q.code[i - p.code.length]? = some y/\x=y.shift p.code.length):=λi x hx=>by
  rcases Nat.lt_or_ge i p.code.length with h|h
  · exact .inl ⟨h,by rw[← hleft i h];exact hx⟩
  · obtain⟨j,rfl⟩:∃ j,i=p.code.length+j:=⟨i - p.code.length,by omega⟩;rw[hright]at hx;rcases hy:q.code[j]? with _|y
    · rw[hy]at hx;cases hx
    · rw[hy]at hx;simp only[Option.map_some,Option.some.injEq]at hx;exact .inr ⟨h,y,by rw[show p.code.length+j - p.code.length=j by omega];exact hy,hx.symm⟩
 have V3:∀ i,i<p.code.length->¬ Ad p.code.length S T i->¬ S i:=λi hi h hs=>h (.inl ⟨hi,hs⟩);have FD:∀ i,p.code.length<=i->¬ Ad p.code.length S T i->¬ T (i - p.code.length):=λi hi h ht=>h (.inr ⟨hi,ht⟩);have hsh:∀ (y:Ins),bH y.op=true->y.shift p.code.length=y.bN (wrap64 (y.target+p.code.length)):=λy hm=>by unfold Ins.shift;rw[if_pos hm]
 have hns:∀ (y:Ins),¬ bH y.op=true->y.shift p.code.length=y:=λy hm=>by unfold Ins.shift;rw[if_neg hm]
 have hq2:∀ k y,q.code[k]? = some y->¬ T k->bH y.op=true->∃ j:Nat,j<q.code.length/\(y.shift p.code.length).target=((p.code.length+j:Nat):Int)/\(∃ z,¬ T j/\q.code[j]? = some z/\y.target=(j:Int)/\z.target=(k:Int)/\pW y z)/\y.shift p.code.length=y.bN ((p.code.length+j:Nat):Int):=λk y hk hT hm=>by
  obtain⟨⟨j,z,hj1,hj2,BB,vY,JO⟩,-⟩:=hq.wG k y hk hT hm;have hjl:=nu hj2;have hw:wrap64 (y.target+p.code.length)=((p.code.length+j:Nat):Int):=by
   rw[BB,mO (by simp only[In64];omega)];omega
  refine⟨j,hjl,?_,⟨z,hj1,hj2,BB,vY,JO⟩,by rw[hsh y hm,hw]⟩;rw[hsh y hm,rM hm,hw]
 refine⟨λx hx => ?_,λi x hx hS => ?_,λi hS => ?_,λi x hx hS hm => ?_,λx hx hc => ?_,?_⟩
 · rw[yA]at hx;rcases List.mem_append.1 hx with h|h
   · exact hp.op x h
   · obtain⟨y,hy,rfl⟩:=List.mem_map.1 h;rw[vo];exact hq.op y hy
 · rcases hsplit i x hx with⟨hi,h⟩|⟨hi,y,h,rfl⟩
   · exact hp.val i x h (V3 i hi hS)
   · by_cases hm:bH y.op=true
     · obtain⟨j,hj,-,-,he⟩:=hq2 _ y h (FD i hi hS) hm;rw[he];exact(hq.wG _ y h (FD i hi hS) hm).2 _ (by omega) (by omega)
     · rw[hns y hm];exact hq.val _ y h (FD i hi hS)
 · rcases hS with⟨hi,hs⟩|⟨hi,ht⟩
   · obtain⟨x,hx,h⟩:=hp.ex i hs;exact⟨x,by rw[hleft i hi];exact hx,h⟩
   · obtain⟨y,hy,hm,h64,hv⟩:=hq.ex _ ht;refine⟨y.shift p.code.length,?_,by rw[vo];exact hm,?_,λt h1 h2 => ?_⟩
     · have:=hright (i - p.code.length);rw[hy,show p.code.length+(i - p.code.length)=i by omega]at this;exact this
     · rw[hsh y hm,rM hm];simp only[In64,wrap64];omega
     · rw[hsh y hm,wJ];exact hv t h1 h2
 · rcases hsplit i x hx with⟨hi,h⟩|⟨hi,y,h,rfl⟩
   · obtain⟨⟨j,y,h1,h2,h3,h4,h5⟩,h6⟩:=hp.wG i x h (V3 i hi hS) hm;have hj:=nu h2;exact⟨⟨j,y,λe=>e.elim (λe=>h1 e.2) (λe=>by omega),by rw[hleft j hj];exact h2,h3,h4,h5⟩,h6⟩
   · rw[vo]at hm;obtain⟨j,hj,ht,⟨z,z1,z2,z3,z4,z5⟩,he⟩:=hq2 _ y h (FD i hi hS) hm;have hmz:bH z.op=true:=by
      rcases z5 with z5|z5
      · simp[bH,z5.2]
      · simp[bH,z5.2]
     obtain⟨k,hk,hkt,⟨u,-,-,u3,-,-⟩,-⟩:=hq2 j z z2 z1 hmz;have hki:k=i - p.code.length:=by rw[z4]at u3;omega
     refine⟨⟨p.code.length+j,z.shift p.code.length,?_,?_,ht,?_,?_⟩,λt h1 h2 => ?_⟩
     · rintro(e|⟨-,e⟩)
       · omega
       · rw[show p.code.length+j - p.code.length=j by omega]at e;exact z1 e
     · rw[hright,z2];rfl
     · rw[hkt,hki];congr 1;omega
     · unfold pW;rw[vo,vo];exact z5
     · rw[hsh y hm,wJ];exact(hq.wG _ y h (FD i hi hS) hm).2 t h1 h2
 · rw[yA]at hx;rcases List.mem_append.1 hx with h|h
   · exact hp.ca x h hc
   · obtain⟨y,hy,rfl⟩:=List.mem_map.1 h;rw[vo]at hc;have hnm:¬ bH y.op=true:=by
      intro hm;simp only[iw,Bool.or_eq_true,beq_iff_eq]at hc;simp only[bH,fU,gz,Bool.or_eq_true,beq_iff_eq]at hm;omega
     rw[hns y hnm];exact hq.ca y hy hc
 · rw[Gp,yA,List.map_append,hp.refs,Df,Pw,Nat.zero_add,show dD q.code p.code.length=dD q.code (0+p.code.length) by rw[Nat.zero_add],Ko,← hq.refs,List.map_map,List.map_map];congr 1;refine List.map_congr_left λr hr => ?_;have hm:r.at'∈dD q.code 0:=by rw[← hq.refs];exact List.mem_map.2 ⟨r,hr,rfl⟩
   have:=Dr _ _ _ hm;simp only[Function.comp_apply,aV.shift];exact mO (by simp only[In64];omega)
theorem Re {κ:Type} [BEq κ] [LawfulBEq κ] (k:κ) (v:Value) (x:κ):∀ (l:List (κ × Value)),x∈(jl k v l).map (·.1)↔x=k\/x∈l.map (·.1)
 | []=>by simp[jl]
 |(a,y) :: l=>by
  have ih:=Re k v x l;simp only[jl];split
  · rename_i h;have:k=a:=by simpa using h
    subst this;simp
  · simp only[List.map_cons,List.mem_cons,ih];constructor
    · rintro(h|h|h)
      · exact .inr (.inl h)
      · exact .inl h
      · exact .inr (.inr h)
    · rintro(h|h|h)
      · exact .inr (.inl h)
      · exact .inl h
      · exact .inr (.inr h)
theorem QF {κ:Type} [BEq κ] [LawfulBEq κ] (k:κ):∀ (l:List (κ × Value)) (i:Nat),(gJ k l i).isSome=true↔k∈l.map (·.1)
 | [],i=>by simp[gJ]
 |(a,y) :: l,i=>by
  have ih:=QF k l (i+1);simp only[gJ];split
  · rename_i h;have:k=a:=by simpa using h
    subst this;simp
  · rename_i h;have:k≠a:=by simpa using h
    simp[ih,this]
theorem _l {κ:Type} [BEq κ] [LawfulBEq κ] (l:List (κ × Value)) (k:κ):(sD l k).isSome=true↔k∈l.map (·.1):=by
 unfold sD;rw[Option.isSome_map];exact QF k l 0
def Ah:List (aB × (Nat->Prop))->Nat->Prop
 | [],_=>False
 |x :: l,i=>Ad x.1.code.length x.2 (Ah l) i
theorem R5:gY (λ_=>False) cB :=
 ⟨λx hx=>(by cases hx),λi x hx=>(by simp[cB]at hx),λi h=>h.elim,λi x hx=>(by simp[cB]at hx),λx hx=>(by cases hx),rfl⟩
theorem Ie:∀ (l:List (aB × (Nat->Prop))),(∀ x∈l,gY x.2 x.1)->aO (l.map (·.1))<=65536->gY (Ah l) (aL (l.map (·.1)))
 | [],_,_=>R5
 |x :: l,h,ht=>by
  have hx:=h x (by simp);have hl:aO ((x :: l).map (·.1))=x.1.code.length+aO (l.map (·.1)):=by simp[aO]
  rw[hl]at ht;have ih:=Ie l (λy hy=>h y (by simp[hy])) (by omega);rw[List.map_cons,Gr,hx.none (by omega)];exact hx.join ih (by rw[(dI _).1];omega)
theorem rU (l:List aB) (h:∀ p∈l,gY (λ_=>False) p) (ht:aO l<=65536):gY (λ_=>False) (aL l):=by
 have hm:(l.map λp=>(p,λ(_:Nat)=>False)).map (·.1)=l:=by rw[List.map_map];exact List.map_id l
 have:=Ie (l.map λp=>(p,λ_=>False)) (λx hx=>by obtain⟨p,hp,rfl⟩:=List.mem_map.1 hx;exact h p hp) (by rw[hm];exact ht);rw[hm]at this;refine this.congr λi=>⟨λhi => ?_,λh=>h.elim⟩;clear this ht h hm
 induction l generalizing i with
 |nil=>exact hi
 |cons p l ih =>
  simp only[List.map_cons,Ah,Ad,and_false,false_or]at hi;exact ih _ hi.2
theorem gY.pair {S:Nat->Prop} {p:aB} (h:gY S p) (i j:Nat) (hi:S i) (hj:S j) (hij:i≠j) (x y:Ins) (hx:p.code[i]? = some x) (hy:p.code[j]? = some y) (ho:pW x y) (hl:p.code.length<=65536) :
 gY (λk=>S k/\k≠i/\k≠j) (gy p i j):=by
 have OA:=nu hx;have hlj:=nu hy;obtain⟨x',hx',hmx,-,V4⟩:=h.ex i hi;rw[hx]at hx';obtain rfl:=Option.some.inj hx';obtain⟨y',hy',OB,-,V5⟩:=h.ex j hj;rw[hy]at hy';obtain rfl:=Option.some.inj hy';have hc:(gy p i j).code=(p.code.set i (x.bN j)).set j (y.bN i):=by simp only[gy,hx,hy]
 have hr:(gy p i j).refs=p.refs:=by simp only[gy,hx,hy]
 have hgi:(gy p i j).code[i]? = some (x.bN j):=by
  rw[hc,List.getElem?_set_ne (λe=>hij e.symm),List.getElem?_set_self OA]
 have hgj:(gy p i j).code[j]? = some (y.bN i):=by
  rw[hc,List.getElem?_set_self (by rw[List.length_set];exact hlj)]
 have hg:∀ k,k≠i->k≠j->(gy p i j).code[k]? = p.code[k]? := λk h1 h2=>by
  rw[hc,List.getElem?_set_ne (λe=>h2 e.symm),List.getElem?_set_ne (λe=>h1 e.symm)]
 have hmem:∀ z∈(gy p i j).code,z∈p.code\/z=x.bN j\/z=y.bN i:=λz hz=>by
  rw[hc]at hz;rcases List.mem_or_eq_of_mem_set hz with hz|hz
  · rcases List.mem_or_eq_of_mem_set hz with hz|hz
    · exact .inl hz
    · exact .inr (.inl hz)
  · exact .inr (.inr hz)
 have hix:iw x.op=false:=by
  simp only[bH,fU,gz,Bool.or_eq_true,beq_iff_eq]at hmx;simp only[iw,Bool.or_eq_false_iff,beq_eq_false_iff_ne];omega
 have hiy:iw y.op=false:=by
  simp only[bH,fU,gz,Bool.or_eq_true,beq_iff_eq]at OB;simp only[iw,Bool.or_eq_false_iff,beq_eq_false_iff_ne];omega
 refine⟨λz hz => ?_,λk z hz hS => ?_,λk hS => ?_,λk z hz hS hm => ?_,λz hz hcz => ?_,?_⟩
 · rcases hmem z hz with h1|rfl|rfl
   · exact h.op z h1
   · rw[mK];exact h.op x (List.mem_of_getElem? hx)
   · rw[mK];exact h.op y (List.mem_of_getElem? hy)
 · by_cases h1:k=i
   · subst h1;rw[hgi]at hz;obtain rfl:=Option.some.inj hz;exact V4 _ (by omega) (by omega)
   · by_cases h2:k=j
     · subst h2;rw[hgj]at hz;obtain rfl:=Option.some.inj hz;exact V5 _ (by omega) (by omega)
     · rw[hg k h1 h2]at hz;exact h.val k z hz (λhs=>hS ⟨hs,h1,h2⟩)
 · obtain⟨z,hz,h3⟩:=h.ex k hS.1;exact⟨z,by rw[hg k hS.2.1 hS.2.2];exact hz,h3⟩
 · by_cases h1:k=i
   · subst h1;rw[hgi]at hz;obtain rfl:=Option.some.inj hz;exact⟨⟨j,_,λe=>e.2.2 rfl,hgj,rM hmx _,rM OB _,by unfold pW at ho ⊢;rw[mK,mK];exact ho⟩,λt t1 t2=>by rw[wJ];exact V4 t t1 t2⟩
   · by_cases h2:k=j
     · subst h2;rw[hgj]at hz;obtain rfl:=Option.some.inj hz;exact⟨⟨i,_,λe=>e.2.1 rfl,hgi,rM OB _,rM hmx _,by have:=ho.symm;unfold pW at this ⊢;rw[mK,mK];exact this⟩,λt t1 t2=>by rw[wJ];exact V5 t t1 t2⟩
     · rw[hg k h1 h2]at hz;obtain⟨⟨m,u,u1,u2,u3,u4,u5⟩,u6⟩:=h.wG k z hz (λhs=>hS ⟨hs,h1,h2⟩) hm;have Nz:m≠i:=λe=>u1 (e ▸ hi);have hmj:m≠j:=λe=>u1 (e ▸ hj);exact⟨⟨m,u,λe=>u1 e.1,by rw[hg m Nz hmj];exact u2,u3,u4,u5⟩,u6⟩
 · rcases hmem z hz with h1|rfl|rfl
   · exact h.ca z h1 hcz
   · rw[mK,hix]at hcz;cases hcz
   · rw[mK,hiy]at hcz;cases hcz
 · rw[hr,h.refs,hc];have hset:∀ (l:List Ins) (o k:Nat) (u v:Ins),l[k]? = some u->iw v.op=iw u.op->dD (l.set k v) o=dD l o:=by
    intro l
    induction l with
    |nil=>intro o k u v hk;simp at hk
    |cons a l ih =>
     intro o k u v hk hv;cases k with
     |zero =>
      simp at hk;subst hk;simp only[List.set_cons_zero,dD,hv]
     |succ k =>
      simp only[List.set_cons_succ,dD,ih (o+1) k u v (by simpa using hk) hv]
   rw[hset _ _ j y _ (by rw[List.getElem?_set_ne hij];exact hy) (by rw[mK]),hset _ _ i x _ hx (by rw[mK])]
theorem XY (refs:List aV) (i:Int):o6 refs i=true↔∃ r∈refs,r.at'=i:=by
 unfold o6;rw[_l];have h:∀ (l:List aV) (m:List (Int × Value)),i∈(l.foldl (λm r=>jl r.at' (.bool true) m) m).map (·.1)↔i∈m.map (·.1)\/∃ r∈l,r.at'=i:=by
  intro l
  induction l with
  |nil=>intro m;simp
  |cons r l ih =>
   intro m;rw[List.foldl_cons,ih,Re];simp only[List.mem_cons,exists_eq_or_imp];constructor
   · rintro((h|h)|h)
     · exact .inr (.inl h.symm)
     · exact .inl h
     · exact .inr (.inr h)
   · rintro(h|h|h)
     · exact .inl (.inr h)
     · exact .inl (.inl h.symm)
     · exact .inr h
 unfold qy;rw[List.take_length,h];simp
theorem gY.check {p:aB} (h:gY (λ_=>False) p):kG p.code p.refs=(-1,0):=by
 have key:∀ (f i next:Nat),p.code.length<=f+i->i<=p.code.length->next=(dD (p.code.take i) 0).length->rP p.code p.refs f i next=(-1,0):=by
  have hend:∀ next i:Nat,p.code.length<=i->next=(dD (p.code.take i) 0).length->Aa p.code p.refs next=(-1,0):=λnext i hi hn=>by
   rw[List.take_of_length_le hi,← h.refs,List.length_map]at hn;unfold Aa;rw[if_neg (by omega)]
  intro f
  induction f with
  |zero=>intro i next hf hi hn;exact hend next i (by omega) hn
  |succ f ih =>
   intro i next hf hi hn;rw[rP];rcases hx:p.code[i]? with _|x
   · exact hend next i (by simpa using hx) hn
   · have hlt:=nu hx;have hmem:=List.mem_of_getElem? hx;have hop:=h.op x hmem;have hv:=h.val i x hx (λe=>e);simp only;rw[if_neg (by rw[hv];simp;omega)];rw[if_neg (by
      rintro⟨hm,hp⟩;obtain⟨⟨j,y,-,hj,ht,hty,ho⟩,-⟩:=h.wG i x hx (λe=>e) hm;have hjl:=nu hj;unfold wW at hp;rw[hx]at hp;simp only at hp;rw[if_neg (by omega)]at hp;rw[show x.target.toNat=j by omega,hj]at hp;simp only at hp;rw[if_neg (by
       rcases ho with⟨a,b⟩|⟨a,b⟩
       · simp only[fU,gz,Bool.or_eq_true,beq_iff_eq]at a b;simp only[fU,gz,Bool.or_eq_true,Bool.and_eq_true,beq_iff_eq,Bool.not_eq_true',Bool.or_eq_false_iff,beq_eq_false_iff_ne];omega
       · simp only[fU,gz,Bool.or_eq_true,beq_iff_eq]at a b;simp only[fU,gz,Bool.or_eq_true,Bool.and_eq_true,beq_iff_eq,Bool.not_eq_true',Bool.or_eq_false_iff,beq_eq_false_iff_ne]
         omega)]at hp
      simp[hty]at hp)]
     have hcx:=P9 p.code 0 i x hx;rw[Nat.zero_add]at hcx;have htk:p.code.take (i+1)=p.code.take i ++ [x]:=by
      rw[List.take_succ_eq_append_getElem hlt,(List.getElem?_eq_some_iff.1 hx).2]
     have htl:(p.code.take i).length=i:=by simp;omega
     have hci:dD (p.code.take (i+1)) 0=dD (p.code.take i) 0 ++ (if iw x.op then[(i:Int)]else[]):=by
      rw[htk,Df,htl,Nat.zero_add];simp[dD]
     by_cases hc:iw x.op=true
     · rw[if_neg (by simp only[iw,Bool.or_eq_true,beq_iff_eq]at hc;omega)];have hall:dD p.code 0=dD (p.code.take i) 0 ++ ((i:Int) :: dD (p.code.drop (i+1)) (i+1)):=by
        conv=>lhs;rw[← List.take_append_drop i p.code,Df,htl,Nat.zero_add,List.drop_eq_getElem_cons hlt]
        rw[(List.getElem?_eq_some_iff.1 hx).2];simp only[dD,hc,if_true]
       have hget:p.refs[next]?.map aV.at'=some (i:Int):=by
        rw[← List.getElem?_map,h.refs,hall,hn,List.getElem?_append_right (Nat.le_refl _),Nat.sub_self];rfl
       have hlen:next<p.refs.length:=by
        rcases Nat.lt_or_ge next p.refs.length with h1|h1
        · exact h1
        · rw[List.getElem?_eq_none h1]at hget;cases hget
       rw[if_neg (by
        rintro(h1|h1|h1)
        · exact h1 (h.ca x hmem hc)
        · omega
        · exact h1 hget)]
       exact ih (i+1) (next+1) (by omega) (by omega) (by rw[hci,if_pos hc,List.length_append,← hn];rfl)
     · rw[if_pos (by simp only[iw,Bool.or_eq_true,beq_iff_eq]at hc;omega)];have hnl:o6 p.refs i=false:=by
        rcases hb:o6 p.refs i with _|_
        · rfl
        · obtain⟨r,hr,he⟩:=(XY _ _).1 hb;have:(i:Int)∈dD p.code 0:=by rw[← h.refs];exact List.mem_map.2 ⟨r,hr,he⟩
          exact absurd (hcx.1 this) hc
       rw[hnl];simp only[Bool.false_eq_true,if_false];exact ih (i+1) next (by omega) (by omega) (by rw[hci,if_neg hc,List.append_nil];exact hn)
 exact key p.code.length 0 0 (by omega) (by omega) rfl
end Go.Proofs.YtnobahchcongnaaGreatDoor
