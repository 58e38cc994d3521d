import Derived.Test.YtnobahchcongnaaGreatF33
set_option linter.unusedSimpArgs false
set_option linter.unusedVariables false
set_option maxRecDepth 100000
set_option maxHeartbeats 25600000
namespace Go.Proofs.YtnobahchcongnaaGreat
open Go.RowKit Go.Instr
def zy (l:List (List Ins)):Nat:=(l.map List.length).sum
theorem ZX (l:List (List Ins)):(l.getD 0 []).length+(l.getD 1 []).length<=zy l:=by
 match l with
 | []=>simp[zy]
 | [a]=>simp[zy]
 |a :: b :: l=>simp only[zy,List.map_cons,List.sum_cons,List.getD_cons_zero,List.getD_cons_succ];omega
mutual
theorem PO (f:az):∀ (t:Tree) (p:Int),(jq f t p).length<=10 * bA t
 |.mk k n s l,p=>by
  have h:=O3 f l p;have h2:=ZX (kS f l p);rw[jq,bA];generalize (kS f l p).getD 0 []=a at *;generalize (kS f l p).getD 1 []=b at *;split
  · simp;omega
  split
  · simp;omega
  split
  · simp;omega
  split
  · simp;omega
  split
  · simp;omega
  split
  · simp;omega
  · simp;omega
theorem O3 (f:az):∀ (l:List Tree) (p:Int),zy (kS f l p)<=10 * dz l
 | [],p=>by simp[kS,zy]
 |t :: l,p=>by
  have h1:=PO f t p;have h2:=O3 f l (p+1);simp only[kS,zy,dz,List.map_cons,List.sum_cons]at *;omega
end
theorem uE (f:az) (t:Tree):(eP f t).length<=10 * bA t:=PO f t 0
mutual
theorem JO:∀ (t:Tree),iJ t<=bA t
 |.mk k n s l=>by
  have:=O4 l;rw[iJ,bA];omega
theorem O4:∀ (l:List Tree),jR l<=dz l
 | []=>by simp[jR]
 |t :: l=>by
  have h1:=JO t;have h2:=O4 l;rw[jR,dz];omega
end
mutual
theorem O5 (f:az) (procs:List aU):∀ (t:Tree),aM t=true->dm f procs t=true->bO f t=true
 |.mk k n s l,he,hn=>by
  have ih:=Ol f procs l;have hk:k≠50/\k≠51/\k≠54/\k≠44/\k≠45/\k≠55:=by
   refine⟨?_,?_,?_,?_,?_,?_⟩ <;> (intro e;subst e;simp[aM]at he)
  have hl:mf l=true:=by
   rw[aM]at he
   repeat' split at he
   all_goals first
    |(simp only[Bool.and_eq_true,List.isEmpty_iff]at he;rw[he.2.2];rfl)
    |(simp only[Bool.and_eq_true,List.isEmpty_iff]at he;rw[he.2];rfl)
    |(simp only[Bool.and_eq_true]at he;exact he.2.2)
    |cases he
  rw[dm]at hn;rw[bO];by_cases h2:k=2
  · rw[if_pos (.inl h2),Bool.and_eq_true]at hn;rw[if_pos h2,Bool.and_eq_true];exact⟨hn.1,ih hl hn.2⟩
  rw[if_neg (by omega)]at hn;rw[if_neg h2];by_cases h3:k=3
  · rw[if_pos h3,Bool.and_eq_true]at hn;rw[if_pos h3,Bool.and_eq_true];exact⟨hn.1,ih hl hn.2⟩
  rw[if_neg h3]at hn;rw[if_neg h3];by_cases h4:k=4\/k=5
  · rw[if_pos (by omega),Bool.and_eq_true]at hn;rw[if_pos h4,Bool.and_eq_true];exact⟨hn.1,ih hl hn.2⟩
  · rw[if_neg (by omega),if_neg (by omega)]at hn;rw[if_neg h4];exact ih hl hn
theorem Ol (f:az) (procs:List aU):∀ (l:List Tree),mf l=true->kN f procs l=true->jZ f l=true
 | [],_,_=>by simp[jZ]
 |t :: l,he,hn=>by
  have h1:=O5 f procs t;have h2:=Ol f procs l;simp only[mf,kN,jZ,Bool.and_eq_true,Bool.or_eq_true]at he hn ⊢;refine⟨h1 he.1 (hn.1.elim (λe => ?_) id),h2 he.2 hn.2⟩;exfalso;obtain⟨k,n,s,r⟩:=t;have e57:k=57:=by simpa[Tree.kind]using e
  subst e57;have:=he.1;simp[aM]at this
end
theorem nG.of (f:az) (procs:List aU) (t:Tree) (he:aM t=true) (hn:dm f procs t=true) (hs:bA t<=2000):nG f t :=
 ⟨he,O5 f procs t he hn,by have:=JO t;omega,by have:=uE f t;omega⟩
theorem EY:∀ (l:List Tree) (i:Nat) (h:i<l.length),bA l[i]<=dz l
 |t :: l,0,_=>by simp[dz]
 |t :: l,i+1,h=>by
  have:=EY l i (by simpa using h);simp[dz];omega
theorem size_pos (t:Tree):1<=bA t:=by cases t;rw[bA];omega
theorem _o (l:List Tree) (i:Nat):bA (l.getD i dx)<=1+dz l:=by
 rw[List.getD_eq_getElem?_getD];by_cases h:i<l.length
 · rw[List.getElem?_eq_getElem h];have:=EY l i h;simp only[Option.getD_some];omega
 · rw[List.getElem?_eq_none (by omega)];simp[dx,bA,dz]
theorem Fz (t:Tree) (i:Nat):bA (t.kid i)<=bA t:=by
 obtain⟨k,n,s,l⟩:=t;have:=_o l i;rw[bA];exact this
def mJ (l:List Tree) (i:Nat):Nat:=match l[i]? with
 |some t=>bA t
 |none=>0
theorem Qu (l:List Tree):mJ l 0+mJ l 1+mJ l 2+mJ l 3<=dz l:=by
 match l with
 | []=>simp[mJ]
 | [a]=>simp[mJ,dz]
 | [a,b]=>simp[mJ,dz]
 | [a,b,c]=>simp[mJ,dz];omega
 |a :: b :: c :: d :: l=>simp[mJ,dz];omega
theorem Fx (l:List Tree) (i:Nat):bA (l.getD i dx)<=mJ l i+1:=by
 rw[List.getD_eq_getElem?_getD,mJ];cases h:l[i]? with
 |none=>simp[dx,bA,dz]
 |some t=>simp
theorem O6 (f:az) (p:Tree) (list:Ins->aI) (c:Nat) (hl:∀ i,(list i).code.length<=c/\(list i).refs.length=0) :
 (Cg f p list).code.length<=20 * bA p+2+c/\(Cg f p list).refs.length=0:=by
 unfold Cg;split
 · have:=hl ⟨10,5,aj f p.name 1,0,0⟩;omega
 · have h1:=mP f (p.kid 0) (list (gQ f p 5 4));have h2:=uE f (p.kid 0);have h3:=Fz p 0;have:=hl (gQ f p 5 4);omega
theorem PQ (f:az) (p:Tree) (i:Ins):(moveC f p i).code.length<=20 * bA p+5/\(moveC f p i).refs.length=0 :=
 O6 f p _ 3 (λi=>by simp[ah])
theorem Om (f:az) (p e:Tree) (op:Int):(nQ f p e op).code.length<=20 * bA p+20 * bA e+20/\(nQ f p e op).refs.length=0:=by
 have h2:=uE f e;unfold nQ;split
 · have h1:=mP f e (ah [⟨10,5,aj f p.name 1,0,0⟩,⟨op,5,4,0,0⟩,⟨10,5,aj f p.name 1,0,0⟩]);simp only[ah,List.length_cons,List.length_nil]at h1;simp only[ah];omega
 · have h3:=uE f (p.kid 0);have h4:=Fz p 0;have h1:=mP f e (ah [gQ f p 6 5,⟨op,6,4,0,0⟩,gQ f p 6 5]);have h5:=mP f (p.kid 0) (aP [o8,aH f e (ah [gQ f p 6 5,⟨op,6,4,0,0⟩,gQ f p 6 5]),o8]);rw[(iH _).1]at h5;simp only[bH,List.map_cons,List.map_nil,List.sum_cons,List.sum_nil,h1.1]at h5;simp only[ah,o8,List.length_cons,List.length_nil]at h5 ⊢;omega
theorem O7 (f:az) (p q:Tree):(yS f p q).code.length<=20 * bA q+5/\(yS f p q).refs.length=0:=by
 unfold yS;split
 · simp[fP]
 · exact O6 f q _ 3 (λi=>by simp[ah])
theorem PR (f:az) (p q:Tree):(lG f p q).code.length<=20 * bA p+20 * bA q+20/\(lG f p q).refs.length=0:=by
 unfold lG;split
 · have h3:=uE f (p.kid 0);have h4:=Fz p 0;have h6:=uE f (q.kid 0);have h7:=Fz q 0;have h1:=mP f (q.kid 0) (eH f p q);have h2:=Js f p q;have h5:=mP f (p.kid 0) (aP [o8,aH f (q.kid 0) (eH f p q),o8]);rw[(iH _).1]at h5;simp only[bH,List.map_cons,List.map_nil,List.sum_cons,List.sum_nil,h1.1]at h5;simp only[ah,o8,List.length_cons,List.length_nil]at h5 ⊢;omega
 · split
   · have:=O7 f q p;omega
   · have:=O7 f p q;omega
theorem EJ (f:az) (e:Tree):(eU f e).code.length=2 * (eP f e).length+3/\(eU f e).refs.length=0:=by
 have h:=mP f e (ah [⟨9,0,4,5,17⟩]);unfold eU;simp only[ah,List.length_cons,List.length_nil]at h ⊢;omega
theorem NQ (f:az) (e1 e2:Tree) (s t:aI):(vP f e1 s t e2).code.length=2 * (eP f e1).length+2 * (eP f e2).length+14+s.code.length+t.code.length/\(vP f e1 s t e2).refs.length=s.refs.length+t.refs.length:=by
 have h1:=EJ f e1;have h2:=EJ f e2;unfold vP;simp only[];rw[(uw _ _ _).1,(uw _ _ _).1,(uw _ _ _).2,(uw _ _ _).2,(iH _).1,(iH _).2];simp only[bH,bX,List.map_cons,List.map_nil,List.sum_cons,List.sum_nil,h1.1,h1.2,h2.1,h2.2];simp only[ah,List.length_cons,List.length_nil];omega
theorem O8 (f:az) (e1 e2:Tree) (s t:aI):(vV f e1 s t e2).code.length=2 * (eP f e1).length+2 * (eP f e2).length+14+s.code.length+t.code.length/\(vV f e1 s t e2).refs.length=s.refs.length+t.refs.length:=by
 have h1:=EJ f e1;have h2:=EJ f e2;unfold vV;simp only[];rw[(uw _ _ _).1,(uw _ _ _).1,(uw _ _ _).2,(uw _ _ _).2,(iH _).1,(iH _).2];simp only[bH,bX,List.map_cons,List.map_nil,List.sum_cons,List.sum_nil,h1.1,h1.2,h2.1,h2.2];simp only[ah,List.length_cons,List.length_nil];omega
theorem Oo (f:az) (name:ByteArray) (e1 e2:Tree) (s:aI):(vS f name e1 s e2).code.length=2 * (eP f e1).length+2 * (eP f e2).length+12+s.code.length/\(vS f name e1 s e2).refs.length=s.refs.length:=by
 unfold vS;rw[(iH _).1,(iH _).2];simp only[bH,bX,List.map_cons,List.map_nil,List.sum_cons,List.sum_nil,(mP _ _ _).1,(mP _ _ _).2];simp only[ah,List.length_cons,List.length_nil];omega
theorem Nt (f:az) (name:ByteArray) (s:aI):(vL f name s).code.length=6+s.code.length/\(vL f name s).refs.length=s.refs.length:=by
 unfold vL;rw[(iH _).1,(iH _).2];simp only[bH,bX,List.map_cons,List.map_nil,List.sum_cons,List.sum_nil];simp only[Kl,ah,List.length_cons,List.length_nil];omega
theorem Ey (a b:List aI):bH (a ++ b)=bH a+bH b/\bX (a ++ b)=bX a+bX b:=by simp[bH,bX]
theorem Xl (a:List aI):bH a.reverse=bH a/\bX a.reverse=bX a:=by
 constructor <;> simp[bH,bX,List.sum_reverse]
theorem ZC (f:az) (x:Int) (s:dL) (hs:s.len<=16):bH (qB f x s)<=48/\bX (qB f x s)=0/\(qB f x s).length<=16:=by
 unfold qB;split
 · simp[bH,bX,ah]
 · have h:∀ n:Nat,bH ((List.range n).map λ(j:Nat)=>ah [⟨10,5,x+j,0,0⟩,⟨10,5,f.cells+s.at'+j,0,0⟩,⟨10,5,x+j,0,0⟩])=3 * n/\bX ((List.range n).map λ(j:Nat)=>ah [⟨10,5,x+j,0,0⟩,⟨10,5,f.cells+s.at'+j,0,0⟩,⟨10,5,x+j,0,0⟩])=0:=by
    intro n
    induction n with
    |zero=>simp[bH,bX]
    |succ n ih =>
     rw[List.range_succ,List.map_append,(Ey _ _).1,(Ey _ _).2,ih.1,ih.2];simp[bH,bX,ah];omega
   rw[(h _).1,(h _).2];simp only[List.length_map,List.length_range];generalize hm:(if s.kind=2 then s.len.toNat else 1)=m;have:m<=16:=by rw[← hm];split <;> omega
   exact⟨by omega,trivial,by omega⟩
theorem JP (f:az):∀ (kids:List Tree) (slots:List dL),(∀ s∈slots,s.len<=16)->bH (jv f kids slots)<=48 * kids.length/\bX (jv f kids slots)=0/\(jv f kids slots).length<=16 * kids.length
 | [],slots,_=>by simp[jv,bH,bX]
 |t :: kids,[],_=>by simp[jv,bH,bX]
 |t :: kids,s :: slots,h=>by
  have ih:=JP f kids slots (λx hx=>h x (List.mem_cons_of_mem _ hx));have h1:=ZC f (aj f t.name s.kind) s (h s (by simp));have e:jv f (t :: kids) (s :: slots)=qB f (aj f t.name s.kind) s ++ jv f kids slots:=by simp[jv]
  rw[e,(Ey _ _).1,(Ey _ _).2];simp only[List.length_append,List.length_cons];omega
theorem Iy:∀ (l:List Tree),l.length<=dz l
 | []=>by simp
 |t :: l=>by
  have:=Iy l;have:=size_pos t;rw[dz,List.length_cons];omega
theorem YV (f:az) (procs:List aU) (op:Int) (name:ByteArray) (kids:List Tree) (hp:∀ x∈(frameC (((vU procs name).map aU.params).getD [])).slots,x.len<=16) :
 (sI f procs op name kids).code.length<=96 * kids.length+3/\(sI f procs op name kids).refs.length=1:=by
 have h:=JP f kids _ hp;unfold sI;dsimp only;generalize jv f kids _=A at *;have h5:∀ (a b c d e:aI),bH [a,b,c,d,e]=a.code.length+b.code.length+c.code.length+d.code.length+e.code.length/\bX [a,b,c,d,e]=a.refs.length+b.refs.length+c.refs.length+d.refs.length+e.refs.length:=by
  intro a b c d e;simp[bH,bX];omega
 have hr:=Xl A;rw[(iH _).1,(iH _).2,(h5 _ _ _ _ _).1,(h5 _ _ _ _ _).2,(iH _).1,(iH _).2,(iH _).1,(iH _).2];simp only[ah,List.length_cons,List.length_nil];omega
theorem nC (f:az) (procs:List aU) (k n:Int) (s:ByteArray) (l:List Tree):fw f procs (.mk k n s l)=(if k=40 then nQ f (l.getD 0 dx) (l.getD 1 dx) 1 else if k=41 then nQ f (l.getD 0 dx) (l.getD 1 dx) 2 else if k=42 then nQ f (l.getD 0 dx) (l.getD 1 dx) 3 else if k=43 then lG f (l.getD 0 dx) (l.getD 1 dx)else if k=44 then moveC f (l.getD 0 dx) ⟨12,5,aj f s 3,0,0⟩else if k=45 then moveC f (l.getD 0 dx) ⟨13,5,aj f s 3,0,0⟩else if k=46 then moveC f (l.getD 0 dx) ⟨17,5,0,0,0⟩else if k=47 then moveC f (l.getD 0 dx) ⟨18,5,0,0,0⟩else if k=48 then moveC f (l.getD 0 dx) ⟨19,5,0,0,0⟩else if k=49 then moveC f (l.getD 0 dx) ⟨20,5,0,0,0⟩else if k=52 then vP f (l.getD 0 dx) ((jd f procs l).getD 1 fP) ((jd f procs l).getD 2 fP) (l.getD 3 dx)else if k=53 then vV f (l.getD 0 dx) ((jd f procs l).getD 1 fP) ((jd f procs l).getD 2 fP) (l.getD 3 dx)else if k=54 then vS f s (l.getD 0 dx) ((jd f procs l).getD 1 fP) (l.getD 2 dx)else if k=55 then vL f s ((jd f procs l).getD 0 fP)else sI f procs (if k=51 then 31 else 30) s l):=by rw[fw]
def De (procs:List aU):Prop:=∀ s,∀ x∈(frameC (((vU procs s).map aU.params).getD [])).slots,x.len<=16
mutual
theorem YW (f:az) (procs:List aU) (hp:De procs):∀ (t:Tree),(fw f procs t).code.length<=800 * bA t/\(fw f procs t).refs.length<=bA t
 |.mk k n s l=>by
  have hb:=Ja f procs hp l;have hs:=Qu l;have h0:=Fx l 0;have h1:=Fx l 1;have h2:=Fx l 2;have h3:=Fx l 3;have c0:=uE f (l.getD 0 dx);have c2:=uE f (l.getD 2 dx);have c3:=uE f (l.getD 3 dx);have b0:=hb 0;have b1:=hb 1;have b2:=hb 2;have hl:=Iy l;rw[nC,bA];generalize (jd f procs l).getD 0 fP=p0 at *;generalize (jd f procs l).getD 1 fP=p1 at *;generalize (jd f procs l).getD 2 fP=p2 at *;have hu:=λop=>Om f (l.getD 0 dx) (l.getD 1 dx) op;have hsw:=PR f (l.getD 0 dx) (l.getD 1 dx);have hm:=λi=>PQ f (l.getD 0 dx) i;have hch:=NQ f (l.getD 0 dx) (l.getD 3 dx) p1 p2;have hlo:=O8 f (l.getD 0 dx) (l.getD 3 dx) p1 p2;have hlc:=Oo f s (l.getD 0 dx) (l.getD 2 dx) p1;have hls:=Nt f s p0;by_cases uU:k=40
  · rw[if_pos uU];have:=hu 1;omega
  rw[if_neg uU];by_cases uV:k=41
  · rw[if_pos uV];have:=hu 2;omega
  rw[if_neg uV];by_cases uW:k=42
  · rw[if_pos uW];have:=hu 3;omega
  rw[if_neg uW];by_cases h43:k=43
  · rw[if_pos h43];omega
  rw[if_neg h43];by_cases oq:k=44
  · rw[if_pos oq];have:=hm ⟨12,5,aj f s 3,0,0⟩;omega
  rw[if_neg oq];by_cases h45:k=45
  · rw[if_pos h45];have:=hm ⟨13,5,aj f s 3,0,0⟩;omega
  rw[if_neg h45];by_cases h46:k=46
  · rw[if_pos h46];have:=hm ⟨17,5,0,0,0⟩;omega
  rw[if_neg h46];by_cases h47:k=47
  · rw[if_pos h47];have:=hm ⟨18,5,0,0,0⟩;omega
  rw[if_neg h47];by_cases h48:k=48
  · rw[if_pos h48];have:=hm ⟨19,5,0,0,0⟩;omega
  rw[if_neg h48];by_cases zJ:k=49
  · rw[if_pos zJ];have:=hm ⟨20,5,0,0,0⟩;omega
  rw[if_neg zJ];by_cases tJ:k=52
  · rw[if_pos tJ];omega
  rw[if_neg tJ];by_cases tK:k=53
  · rw[if_pos tK];omega
  rw[if_neg tK];by_cases jJ:k=54
  · rw[if_pos jJ];omega
  rw[if_neg jJ];by_cases jK:k=55
  · rw[if_pos jK];omega
  rw[if_neg jK];have:=YV f procs (if k=51 then 31 else 30) s l (hp s);omega
theorem Yf (f:az) (procs:List aU) (hp:De procs):∀ (t:Tree),(aV f procs t).code.length<=800 * bA t/\(aV f procs t).refs.length<=bA t
 |.mk k n s l=>by
  have h:=Ju f procs hp l;rw[aV,bA,(iH _).1,(iH _).2];omega
theorem Ju (f:az) (procs:List aU) (hp:De procs):∀ (l:List Tree),bH (uI f procs l)<=800 * dz l/\bX (uI f procs l)<=dz l
 | []=>by simp[uI,bH,bX]
 |t :: l=>by
  have h1:=YW f procs hp t;have h2:=Ju f procs hp l;simp only[uI,dz,bH,bX,List.map_cons,List.sum_cons]at *;omega
theorem Ja (f:az) (procs:List aU) (hp:De procs):∀ (l:List Tree) (i:Nat),((jd f procs l).getD i fP).code.length<=800 * mJ l i/\((jd f procs l).getD i fP).refs.length<=mJ l i
 | [],i=>by simp[jd,fP,mJ]
 |t :: l,0=>by
  have h1:=Yf f procs hp t
  simpa[jd,mJ]using h1
 |t :: l,i+1=>by
  have h1:=Ja f procs hp l i
  simpa[jd,mJ]using h1
end
end Go.Proofs.YtnobahchcongnaaGreat
