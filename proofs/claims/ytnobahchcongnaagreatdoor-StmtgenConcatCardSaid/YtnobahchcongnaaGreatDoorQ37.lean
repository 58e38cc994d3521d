import Derived.Test.YtnobahchcongnaaGreatDoorQ36
set_option linter.unusedSimpArgs false
set_option linter.unusedVariables false
set_option maxRecDepth 100000
set_option maxHeartbeats 25600000
namespace Go.Proofs.YtnobahchcongnaaGreatDoor
open Go.RowKit Go.Instr
def yO (l:List (List Ins)):Nat:=(l.map List.length).sum
theorem YP (l:List (List Ins)):(l.getD 0 []).length+(l.getD 1 []).length≤yO l:=by
 match l with
 | []=>simp [yO]
 | [a]=>simp [yO]
 | a :: b :: l=>simp only [yO,List.map_cons,List.sum_cons,List.getD_cons_zero,List.getD_cons_succ];omega
mutual
theorem Oq (f:az):∀ (t:Tree) (p:Int),(gX f t p).length≤10 * aW t
 | .mk k n s l,p=>by
  have h:=NB f l p;have h2:=YP (iX f l p);rw [gX,aW];generalize (iX f l p).getD 0 []=a at *;generalize (iX f l p).getD 1 []=b at *;split
  · simp;omega
  split
  · simp;omega
  split
  · simp;omega
  split
  · simp;omega
  split
  · simp;omega
  split
  · simp;omega
  · simp;omega
theorem NB (f:az):∀ (l:List Tree) (p:Int),yO (iX f l p)≤10 * cu l
 | [],p=>by simp [iX,yO]
 | t :: l,p=>by
  have h1:=Oq f t p;have h2:=NB f l (p+1);simp only [iX,yO,cu,List.map_cons,List.sum_cons] at *;omega
end
theorem oU (f:az) (t:Tree):(dC f t).length≤10 * aW t:=Oq f t 0
mutual
theorem IL:∀ (t:Tree),gV t≤aW t
 | .mk k n s l=>by
  have:=NC l;rw [gV,aW];omega
theorem NC:∀ (l:List Tree),jD l≤cu l
 | []=>by simp [jD]
 | t :: l=>by
  have h1:=IL t;have h2:=NC l;rw [jD,cu];omega
end
mutual
theorem ND (f:az) (procs:List cB):∀ (t:Tree),aI t=true→aO f procs t=true→bM f t=true
 | .mk k n s l,he,hn=>by
  have ih:=MP f procs l;have hk:k≠50∧k≠51∧k≠54∧k≠44∧k≠45∧k≠55:=by
   refine ⟨?_,?_,?_,?_,?_,?_⟩ <;> (intro e;subst e;simp [aI] at he)
  have hl:iV l=true:=by
   rw [aI] at he
   repeat' split at he
   all_goals first
    | (simp only [Bool.and_eq_true,List.isEmpty_iff] at he;rw [he.2.2];rfl)
    | (simp only [Bool.and_eq_true,List.isEmpty_iff] at he;rw [he.2];rfl)
    | (simp only [Bool.and_eq_true] at he;exact he.2.2)
    | cases he
  rw [aO] at hn;rw [bM];by_cases h2:k=2
  · rw [if_pos (.inl h2),Bool.and_eq_true] at hn;rw [if_pos h2,Bool.and_eq_true];exact ⟨hn.1,ih hl hn.2⟩
  rw [if_neg (by omega)] at hn;rw [if_neg h2];by_cases h3:k=3
  · rw [if_pos h3,Bool.and_eq_true] at hn;rw [if_pos h3,Bool.and_eq_true];exact ⟨hn.1,ih hl hn.2⟩
  rw [if_neg h3] at hn;rw [if_neg h3];by_cases h4:k=4∨k=5
  · rw [if_pos (by omega),Bool.and_eq_true] at hn;rw [if_pos h4,Bool.and_eq_true];exact ⟨hn.1,ih hl hn.2⟩
  · rw [if_neg (by omega),if_neg (by omega)] at hn;rw [if_neg h4];exact ih hl hn
theorem MP (f:az) (procs:List cB):∀ (l:List Tree),iV l=true→fP f procs l=true→jL f l=true
 | [],_,_=>by simp [jL]
 | t :: l,he,hn=>by
  have h1:=ND f procs t;have h2:=MP f procs l;simp only [iV,fP,jL,Bool.and_eq_true,Bool.or_eq_true] at he hn ⊢;refine ⟨h1 he.1 (hn.1.elim (fun e => ?_) id),h2 he.2 hn.2⟩;exfalso;obtain ⟨k,n,s,r⟩:=t;have e57:k=57:=by simpa [Tree.kind] using e
  subst e57;have:=he.1;simp [aI] at this
end
theorem mH.of (f:az) (procs:List cB) (t:Tree) (he:aI t=true) (hn:aO f procs t=true) (hs:aW t≤2000):mH f t :=
 ⟨he,ND f procs t he hn,by have:=IL t;omega,by have:=oU f t;omega⟩
theorem Bl:∀ (l:List Tree) (i:Nat) (h:i<l.length),aW l[i]≤cu l
 | t :: l,0,_=>by simp [cu]
 | t :: l,i+1,h=>by
  have:=Bl l i (by simpa using h);simp [cu];omega
theorem size_pos (t:Tree):1≤aW t:=by cases t;rw [aW];omega
theorem Y9 (l:List Tree) (i:Nat):aW (l.getD i dG)≤1+cu l:=by
 rw [List.getD_eq_getElem?_getD];by_cases h:i<l.length
 · rw [List.getElem?_eq_getElem h];have:=Bl l i h;simp only [Option.getD_some];omega
 · rw [List.getElem?_eq_none (by omega)];simp [dG,aW,cu]
theorem vw (t:Tree) (i:Nat):aW (t.kid i)≤aW t:=by
 obtain ⟨k,n,s,l⟩:=t;have:=Y9 l i;rw [aW];exact this
def lN (l:List Tree) (i:Nat):Nat:=match l[i]? with
 | some t=>aW t
 | none=>0
theorem OY (l:List Tree):lN l 0+lN l 1+lN l 2+lN l 3≤cu l:=by
 match l with
 | []=>simp [lN]
 | [a]=>simp [lN,cu]
 | [a,b]=>simp [lN,cu]
 | [a,b,c]=>simp [lN,cu];omega
 | a :: b :: c :: d :: l=>simp [lN,cu];omega
theorem EU (l:List Tree) (i:Nat):aW (l.getD i dG)≤lN l i+1:=by
 rw [List.getD_eq_getElem?_getD,lN];cases h:l[i]? with
 | none=>simp [dG,aW,cu]
 | some t=>simp
theorem NF (f:az) (p:Tree) (list:Ins→aC) (c:Nat) (hl:∀ i,(list i).code.length≤c∧(list i).refs.length=0) :
 (yg f p list).code.length≤20 * aW p+2+c∧(yg f p list).refs.length=0:=by
 unfold yg;split
 · have:=hl ⟨10,5,ak f p.name 1,0,0⟩;omega
 · have h1:=kK f (p.kid 0) (list (eF f p 5 4));have h2:=oU f (p.kid 0);have h3:=vw p 0;have:=hl (eF f p 5 4);omega
theorem Xv (f:az) (p:Tree) (i:Ins):(moveC f p i).code.length≤20 * aW p+5∧(moveC f p i).refs.length=0 :=
 NF f p _ 3 (fun i=>by simp [ah])
theorem VS (f:az) (p e:Tree) (op:Int):(lS f p e op).code.length≤20 * aW p+20 * aW e+20∧(lS f p e op).refs.length=0:=by
 have h2:=oU f e;unfold lS;split
 · have h1:=kK f e (ah [⟨10,5,ak f p.name 1,0,0⟩,⟨op,5,4,0,0⟩,⟨10,5,ak f p.name 1,0,0⟩]);simp only [ah,List.length_cons,List.length_nil] at h1;simp only [ah];omega
 · have h3:=oU f (p.kid 0);have h4:=vw p 0;have h1:=kK f e (ah [eF f p 6 5,⟨op,6,4,0,0⟩,eF f p 6 5]);have h5:=kK f (p.kid 0) (aK [kT,aH f e (ah [eF f p 6 5,⟨op,6,4,0,0⟩,eF f p 6 5]),kT]);rw [(dY _).1] at h5;simp only [aP,List.map_cons,List.map_nil,List.sum_cons,List.sum_nil,h1.1] at h5;simp only [ah,kT,List.length_cons,List.length_nil] at h5 ⊢;omega
theorem NG (f:az) (p q:Tree):(vo f p q).code.length≤20 * aW q+5∧(vo f p q).refs.length=0:=by
 unfold vo;split
 · simp [cO]
 · exact NF f q _ 3 (fun i=>by simp [ah])
theorem Xw (f:az) (p q:Tree):(jO f p q).code.length≤20 * aW p+20 * aW q+20∧(jO f p q).refs.length=0:=by
 unfold jO;split
 · have h3:=oU f (p.kid 0);have h4:=vw p 0;have h6:=oU f (q.kid 0);have h7:=vw q 0;have h1:=kK f (q.kid 0) (eD f p q);have h2:=Eo f p q;have h5:=kK f (p.kid 0) (aK [kT,aH f (q.kid 0) (eD f p q),kT]);rw [(dY _).1] at h5;simp only [aP,List.map_cons,List.map_nil,List.sum_cons,List.sum_nil,h1.1] at h5;simp only [ah,kT,List.length_cons,List.length_nil] at h5 ⊢;omega
 · split
   · have:=NG f q p;omega
   · have:=NG f p q;omega
theorem wQ (f:az) (e:Tree):(ed f e).code.length=2 * (dC f e).length+3∧(ed f e).refs.length=0:=by
 have h:=kK f e (ah [⟨9,0,4,5,17⟩]);unfold ed;simp only [ah,List.length_cons,List.length_nil] at h ⊢;omega
theorem MC (f:az) (e1 e2:Tree) (s t:aC):(qF f e1 s t e2).code.length=2 * (dC f e1).length+2 * (dC f e2).length+14+s.code.length+t.code.length∧(qF f e1 s t e2).refs.length=s.refs.length+t.refs.length:=by
 have h1:=wQ f e1;have h2:=wQ f e2;unfold qF;simp only [];rw [(rO _ _ _).1,(rO _ _ _).1,(rO _ _ _).2,(rO _ _ _).2,(dY _).1,(dY _).2];simp only [aP,bS,List.map_cons,List.map_nil,List.sum_cons,List.sum_nil,h1.1,h1.2,h2.1,h2.2];simp only [ah,List.length_cons,List.length_nil];omega
theorem NH (f:az) (e1 e2:Tree) (s t:aC):(qN f e1 s t e2).code.length=2 * (dC f e1).length+2 * (dC f e2).length+14+s.code.length+t.code.length∧(qN f e1 s t e2).refs.length=s.refs.length+t.refs.length:=by
 have h1:=wQ f e1;have h2:=wQ f e2;unfold qN;simp only [];rw [(rO _ _ _).1,(rO _ _ _).1,(rO _ _ _).2,(rO _ _ _).2,(dY _).1,(dY _).2];simp only [aP,bS,List.map_cons,List.map_nil,List.sum_cons,List.sum_nil,h1.1,h1.2,h2.1,h2.2];simp only [ah,List.length_cons,List.length_nil];omega
theorem VT (f:az) (name:ByteArray) (e1 e2:Tree) (s:aC):(qH f name e1 s e2).code.length=2 * (dC f e1).length+2 * (dC f e2).length+12+s.code.length∧(qH f name e1 s e2).refs.length=s.refs.length:=by
 unfold qH;rw [(dY _).1,(dY _).2];simp only [aP,bS,List.map_cons,List.map_nil,List.sum_cons,List.sum_nil,(kK _ _ _).1,(kK _ _ _).2];simp only [ah,List.length_cons,List.length_nil];omega
theorem Us (f:az) (name:ByteArray) (s:aC):(qy f name s).code.length=6+s.code.length∧(qy f name s).refs.length=s.refs.length:=by
 unfold qy;rw [(dY _).1,(dY _).2];simp only [aP,bS,List.map_cons,List.map_nil,List.sum_cons,List.sum_nil];simp only [EZ,ah,List.length_cons,List.length_nil];omega
theorem Ef (a b:List aC):aP (a ++ b)=aP a+aP b∧bS (a ++ b)=bS a+bS b:=by simp [aP,bS]
theorem MQ (a:List aC):aP a.reverse=aP a∧bS a.reverse=bS a:=by
 constructor <;> simp [aP,bS,List.sum_reverse]
theorem Yt (f:az) (x:Int) (s:dF) (hs:s.len≤16):aP (ow f x s)≤48∧bS (ow f x s)=0∧(ow f x s).length≤16:=by
 unfold ow;split
 · simp [aP,bS,ah]
 · have h:∀ n:Nat,aP ((List.range n).map fun (j:Nat)=>ah [⟨10,5,x+j,0,0⟩,⟨10,5,f.cells+s.at'+j,0,0⟩,⟨10,5,x+j,0,0⟩])=3 * n∧bS ((List.range n).map fun (j:Nat)=>ah [⟨10,5,x+j,0,0⟩,⟨10,5,f.cells+s.at'+j,0,0⟩,⟨10,5,x+j,0,0⟩])=0:=by
    intro n
    induction n with
    | zero=>simp [aP,bS]
    | succ n ih =>
     rw [List.range_succ,List.map_append,(Ef _ _).1,(Ef _ _).2,ih.1,ih.2];simp [aP,bS,ah];omega
   rw [(h _).1,(h _).2];simp only [List.length_map,List.length_range];generalize hm:(if s.kind=2 then s.len.toNat else 1)=m;have:m≤16:=by rw [← hm];split <;> omega
   exact ⟨by omega,trivial,by omega⟩
theorem IM (f:az):∀ (kids:List Tree) (slots:List dF),(∀ s∈slots,s.len≤16)→aP (iL f kids slots)≤48 * kids.length∧bS (iL f kids slots)=0∧(iL f kids slots).length≤16 * kids.length
 | [],slots,_=>by simp [iL,aP,bS]
 | t :: kids,[],_=>by simp [iL,aP,bS]
 | t :: kids,s :: slots,h=>by
  have ih:=IM f kids slots (fun x hx=>h x (List.mem_cons_of_mem _ hx));have h1:=Yt f (ak f t.name s.kind) s (h s (by simp));have e:iL f (t :: kids) (s :: slots)=ow f (ak f t.name s.kind) s ++ iL f kids slots:=by simp [iL]
  rw [e,(Ef _ _).1,(Ef _ _).2];simp only [List.length_append,List.length_cons];omega
theorem Bd:∀ (l:List Tree),l.length≤cu l
 | []=>by simp
 | t :: l=>by
  have:=Bd l;have:=size_pos t;rw [cu,List.length_cons];omega
theorem Xx (f:az) (procs:List cB) (op:Int) (name:ByteArray) (kids:List Tree) (hp:∀ x∈(frameC (((rU procs name).map cB.params).getD [])).slots,x.len≤16) :
 (qO f procs op name kids).code.length≤96 * kids.length+3∧(qO f procs op name kids).refs.length=1:=by
 have h:=IM f kids _ hp;unfold qO;dsimp only;generalize iL f kids _=A at *;have h5:∀ (a b c d e:aC),aP [a,b,c,d,e]=a.code.length+b.code.length+c.code.length+d.code.length+e.code.length∧bS [a,b,c,d,e]=a.refs.length+b.refs.length+c.refs.length+d.refs.length+e.refs.length:=by
  intro a b c d e;simp [aP,bS];omega
 have hr:=MQ A;rw [(dY _).1,(dY _).2,(h5 _ _ _ _ _).1,(h5 _ _ _ _ _).2,(dY _).1,(dY _).2,(dY _).1,(dY _).2];simp only [ah,List.length_cons,List.length_nil];omega
theorem mr (f:az) (procs:List cB) (k n:Int) (s:ByteArray) (l:List Tree):fB f procs (.mk k n s l)=(if k=40 then lS f (l.getD 0 dG) (l.getD 1 dG) 1 else if k=41 then lS f (l.getD 0 dG) (l.getD 1 dG) 2 else if k=42 then lS f (l.getD 0 dG) (l.getD 1 dG) 3 else if k=43 then jO f (l.getD 0 dG) (l.getD 1 dG) else if k=44 then moveC f (l.getD 0 dG) ⟨12,5,ak f s 3,0,0⟩ else if k=45 then moveC f (l.getD 0 dG) ⟨13,5,ak f s 3,0,0⟩ else if k=46 then moveC f (l.getD 0 dG) ⟨17,5,0,0,0⟩ else if k=47 then moveC f (l.getD 0 dG) ⟨18,5,0,0,0⟩ else if k=48 then moveC f (l.getD 0 dG) ⟨19,5,0,0,0⟩ else if k=49 then moveC f (l.getD 0 dG) ⟨20,5,0,0,0⟩ else if k=52 then qF f (l.getD 0 dG) ((iW f procs l).getD 1 cO) ((iW f procs l).getD 2 cO) (l.getD 3 dG) else if k=53 then qN f (l.getD 0 dG) ((iW f procs l).getD 1 cO) ((iW f procs l).getD 2 cO) (l.getD 3 dG) else if k=54 then qH f s (l.getD 0 dG) ((iW f procs l).getD 1 cO) (l.getD 2 dG) else if k=55 then qy f s ((iW f procs l).getD 0 cO) else qO f procs (if k=51 then 31 else 30) s l):=by rw [fB]
def Av (procs:List cB):Prop:=∀ s,∀ x∈(frameC (((rU procs s).map cB.params).getD [])).slots,x.len≤16
mutual
theorem Ot (f:az) (procs:List cB) (hp:Av procs):∀ (t:Tree),(fB f procs t).code.length≤800 * aW t∧(fB f procs t).refs.length≤aW t
 | .mk k n s l=>by
  have hb:=Hu f procs hp l;have hs:=OY l;have h0:=EU l 0;have h1:=EU l 1;have h2:=EU l 2;have h3:=EU l 3;have c0:=oU f (l.getD 0 dG);have c2:=oU f (l.getD 2 dG);have c3:=oU f (l.getD 3 dG);have b0:=hb 0;have b1:=hb 1;have b2:=hb 2;have hl:=Bd l;rw [mr,aW];generalize (iW f procs l).getD 0 cO=p0 at *;generalize (iW f procs l).getD 1 cO=p1 at *;generalize (iW f procs l).getD 2 cO=p2 at *;have hu:=fun op=>VS f (l.getD 0 dG) (l.getD 1 dG) op;have hsw:=Xw f (l.getD 0 dG) (l.getD 1 dG);have hm:=fun i=>Xv f (l.getD 0 dG) i;have hch:=MC f (l.getD 0 dG) (l.getD 3 dG) p1 p2;have hlo:=NH f (l.getD 0 dG) (l.getD 3 dG) p1 p2;have hlc:=VT f s (l.getD 0 dG) (l.getD 2 dG) p1;have hls:=Us f s p0;by_cases rq:k=40
  · rw [if_pos rq];have:=hu 1;omega
  rw [if_neg rq];by_cases ru:k=41
  · rw [if_pos ru];have:=hu 2;omega
  rw [if_neg ru];by_cases ry:k=42
  · rw [if_pos ry];have:=hu 3;omega
  rw [if_neg ry];by_cases h43:k=43
  · rw [if_pos h43];omega
  rw [if_neg h43];by_cases lY:k=44
  · rw [if_pos lY];have:=hm ⟨12,5,ak f s 3,0,0⟩;omega
  rw [if_neg lY];by_cases h45:k=45
  · rw [if_pos h45];have:=hm ⟨13,5,ak f s 3,0,0⟩;omega
  rw [if_neg h45];by_cases h46:k=46
  · rw [if_pos h46];have:=hm ⟨17,5,0,0,0⟩;omega
  rw [if_neg h46];by_cases h47:k=47
  · rw [if_pos h47];have:=hm ⟨18,5,0,0,0⟩;omega
  rw [if_neg h47];by_cases h48:k=48
  · rw [if_pos h48];have:=hm ⟨19,5,0,0,0⟩;omega
  rw [if_neg h48];by_cases sJ:k=49
  · rw [if_pos sJ];have:=hm ⟨20,5,0,0,0⟩;omega
  rw [if_neg sJ];by_cases sK:k=52
  · rw [if_pos sK];omega
  rw [if_neg sK];by_cases sM:k=53
  · rw [if_pos sM];omega
  rw [if_neg sM];by_cases mK:k=54
  · rw [if_pos mK];omega
  rw [if_neg mK];by_cases lu:k=55
  · rw [if_pos lu];omega
  rw [if_neg lu];have:=Xx f procs (if k=51 then 31 else 30) s l (hp s);omega
theorem Io (f:az) (procs:List cB) (hp:Av procs):∀ (t:Tree),(aR f procs t).code.length≤800 * aW t∧(aR f procs t).refs.length≤aW t
 | .mk k n s l=>by
  have h:=Ip f procs hp l;rw [aR,aW,(dY _).1,(dY _).2];omega
theorem Ip (f:az) (procs:List cB) (hp:Av procs):∀ (l:List Tree),aP (o6 f procs l)≤800 * cu l∧bS (o6 f procs l)≤cu l
 | []=>by simp [o6,aP,bS]
 | t :: l=>by
  have h1:=Ot f procs hp t;have h2:=Ip f procs hp l;simp only [o6,cu,aP,bS,List.map_cons,List.sum_cons] at *;omega
theorem Hu (f:az) (procs:List cB) (hp:Av procs):∀ (l:List Tree) (i:Nat),((iW f procs l).getD i cO).code.length≤800 * lN l i∧((iW f procs l).getD i cO).refs.length≤lN l i
 | [],i=>by simp [iW,cO,lN]
 | t :: l,0=>by
  have h1:=Io f procs hp t
  simpa [iW,lN] using h1
 | t :: l,i+1=>by
  have h1:=Hu f procs hp l i
  simpa [iW,lN] using h1
end
end Go.Proofs.YtnobahchcongnaaGreatDoor
