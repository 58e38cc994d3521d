import Derived.Test.YtnobahchcongnaaGreatDoorR35
set_option linter.unusedSimpArgs false
set_option linter.unusedVariables false
set_option maxRecDepth 100000
set_option maxHeartbeats 25600000
namespace Go.Proofs.YtnobahchcongnaaGreatDoor
open Go.RowKit Go.Instr
theorem Qd {l:List Ins} {k:Nat} {x:Ins} (a:Int) (h:l[k]? = some x):(bR l a)[k]? = some (x.shift a):=by
 unfold bR;rw[List.getElem?_map,h];rfl
theorem Gf (l:List Ins) (a:Int):(bR l a).length=l.length:=by unfold bR;exact List.length_map _
theorem Rj (p:aB) (b:List aB) (k:Nat) (x:Ins) (h:p.code[k]? = some x):∀ (a:List aB),∃ y,(aL (a ++ p :: b)).code[aO a+k]? = some y/\y.op=x.op
 | []=>by
  have hl:=nu h;refine⟨x.shift 0,?_,vo _ _⟩;rw[List.nil_append,Gr];have:=Qd 0 h;simp only[eF,cB,List.nil_append,aO,List.map_nil,List.sum_nil,Nat.zero_add,List.length_nil];rw[List.getElem?_append_left (by rw[Gf];exact hl)];exact this
 |q :: a=>by
  obtain⟨y,hy,ho⟩:=Rj p b k x h a;refine⟨y.shift q.code.length,?_,by rw[vo];exact ho⟩;rw[List.cons_append,Gr];have hs:=Qd (q.code.length:Int) hy;have ht:aO (q :: a)=q.code.length+aO a:=by simp[aO]
  simp only[eF,cB,List.nil_append,List.length_nil];rw[ht,Gf,List.getElem?_append_right (by rw[Gf];omega),Gf,show q.code.length+aO a+k - q.code.length=aO a+k from by omega];exact hs
theorem yC (l a:List aB) (p:aB) (b:List aB) (i k:Nat) (x:Ins) (hl:l=a ++ p :: b) (hi:i=aO a+k) (h:p.code[k]? = some x):∃ y,(aL l).code[i]? = some y/\y.op=x.op:=by
 subst hl;subst hi;exact Rj p b k x h a
theorem QH {p:aB} {i j k:Nat} (h1:k≠i) (h2:k≠j):(gy p i j).code[k]? = p.code[k]? := by
 unfold gy;split
 · simp only[];rw[List.getElem?_set_ne (λe=>h2 e.symm),List.getElem?_set_ne (λe=>h1 e.symm)]
 · rfl
theorem SS {S:Nat->Prop} {p:aB} (h:gY S p) (i j k l:Nat) (hS:∀ n,S n↔n=i\/n=j\/n=k\/n=l) (hd:i≠j/\i≠k/\i≠l/\j≠k/\j≠l/\k≠l) (x y z u:Ins)
 (hx:∃ v,p.code[i]? = some v/\v.op=x.op) (hy:∃ v,p.code[j]? = some v/\v.op=y.op) (hz:∃ v,p.code[k]? = some v/\v.op=z.op) (hu:∃ v,p.code[l]? = some v/\v.op=u.op)
 (ho:pW x y) (ho':pW z u) (hl:p.code.length<=65536):Ok0 (gy (gy p i j) k l):=by
 obtain⟨d1,d2,d3,d4,d5,d6⟩:=hd;obtain⟨x',hx,ex⟩:=hx;obtain⟨y',hy,ey⟩:=hy;obtain⟨z',hz,ez⟩:=hz;obtain⟨u',hu,eu⟩:=hu;have h1:=h.pair i j ((hS i).2 (.inl rfl)) ((hS j).2 (.inr (.inl rfl))) d1 x' y' hx hy (by unfold pW at *;rw[ex,ey];exact ho) hl;have hz':(gy p i j).code[k]? = some z':=by rw[QH (λe=>d2 e.symm) (λe=>d4 e.symm)];exact hz
 have hu':(gy p i j).code[l]? = some u':=by rw[QH (λe=>d3 e.symm) (λe=>d5 e.symm)];exact hu
 have h2:=h1.pair k l ⟨(hS k).2 (.inr (.inr (.inl rfl))),λe=>d2 e.symm,λe=>d4 e.symm⟩ ⟨(hS l).2 (.inr (.inr (.inr rfl))),λe=>d3 e.symm,λe=>d5 e.symm⟩ d6 z' u' hz' hu' (by unfold pW at *;rw[ez,eu];exact ho') (by rw[(tH _ _ _).1];exact hl);refine h2.congr λn=>⟨λhn => ?_,λhn=>hn.elim⟩;obtain⟨⟨hs,a1,a2⟩,a3,a4⟩:=hn;rcases(hS n).1 hs with e|e|e|e
 · exact a1 e
 · exact a2 e
 · exact a3 e
 · exact a4 e
theorem GQ:bT lK:=Rh 0 15 (by decide) (by decide)
theorem Gg:bT jU:=Rf 0 1 (by decide)
theorem ok_one {x:Ins} (h:bT x):Ok0 (ah [x]):=wU _ λy hy=>by rw[List.mem_singleton.1 hy];exact h
theorem R7 (x:Ins) (hx:Raw x):gY (λi=>i=0) (ah [x]) :=
 Eb _ _ (λi y hy=>by
  have hi:=nu hy;simp only[List.length_cons,List.length_nil]at hi;have:i=0:=by omega
  subst this;simp only[List.getElem?_cons_zero,Option.some.injEq]at hy;subst hy;exact .inl ⟨rfl,hx⟩) (λi hi=>by simp;omega)
theorem R8 (S:Nat->Prop) (x y:Ins) (h0:(S 0/\Raw x)\/(¬ S 0/\bT x)) (h1:(S 1/\Raw y)\/(¬ S 1/\bT y)) (hS:∀ i,S i->i<2):gY S (ah [x,y]) :=
 Eb _ _ (λi z hz=>by
  have hi:=nu hz;simp only[List.length_cons,List.length_nil]at hi;have hc:i=0\/i=1:=by omega
  rcases hc with rfl|rfl
  all_goals
   simp only[List.getElem?_cons_zero,List.getElem?_cons_succ,Option.some.injEq]at hz;subst hz
  · exact h0
  · exact h1) hS
theorem R9 (S:Nat->Prop) (x y u:Ins) (h0:(S 0/\Raw x)\/(¬ S 0/\bT x)) (h1:(S 1/\Raw y)\/(¬ S 1/\bT y)) (h2:(S 2/\Raw u)\/(¬ S 2/\bT u)) (hS:∀ i,S i->i<3):gY S (ah [x,y,u]) :=
 Eb _ _ (λi z hz=>by
  have hi:=nu hz;simp only[List.length_cons,List.length_nil]at hi;have hc:i=0\/i=1\/i=2:=by omega
  rcases hc with rfl|rfl|rfl
  all_goals
   simp only[List.getElem?_cons_zero,List.getElem?_cons_succ,Option.some.injEq]at hz;subst hz
  · exact h0
  · exact h1
  · exact h2) hS
theorem _I {f:ax} (hf:eP f) {e1 e2:Tree} (h1:aN e1=true) (h2:aN e2=true) (hs1:aI e1<=80) (hs2:aI e2<=80) {s t:aB} (hs:Ok0 s) (ht:Ok0 t) (hl:(rT f e1 s t e2).code.length<=65536):Ok0 (rT f e1 s t e2):=by
 have hlen:=(PN f e1 e2 s t).1;have l1:=(yB f e1).1;have l2:=(yB f e2).1;have o1:=Ig hf h1 hs1;have o2:=Ig hf h2 hs2;rw[hlen]at hl;have r23:Raw ⟨23,0,0,0,0⟩:=Ck _ _ (by decide) (by decide);have r27:Raw ⟨27,0,0,0,0⟩:=Ck _ _ (by decide) (by decide);have OC:Raw ⟨22,0,0,0,0⟩:=Io _ (by decide);have OD:Raw ⟨25,0,0,0,0⟩:=Io _ (by decide);unfold rT;simp only[];generalize dW f e1=t1 at *;generalize dW f e2=t2 at *
 let ps:List (aB × (Nat->Prop)):=[(ah [lK],λ_=>False),(t1,λ_=>False),(ah [⟨23,0,0,0,0⟩,jU],λi=>i=0),(s,λ_=>False),(ah [jU,⟨22,0,0,0,0⟩,⟨25,0,0,0,0⟩],λi=>i=1\/i=2),(t,λ_=>False),(ah [⟨27,0,0,0,0⟩],λi=>i=0),(t2,λ_=>False),(ah [lK],λ_=>False)]
 have hps:aO (ps.map (·.1))=(bW f e1).length * 2+2 * (bW f e2).length+14+s.code.length+t.code.length:=by
  simp only[ps,aO,List.map_cons,List.map_nil,List.sum_cons,List.sum_nil,l1,l2];simp only[ah,List.length_cons,List.length_nil];omega
 have hall:∀ x∈ps,gY x.2 x.1:=λx hx=>by
  simp only[ps,List.mem_cons,List.not_mem_nil,or_false]at hx;rcases hx with rfl|rfl|rfl|rfl|rfl|rfl|rfl|rfl|rfl
  · exact ok_one GQ
  · exact o1
  · exact R8 _ _ _ (.inl ⟨rfl,r23⟩) (.inr ⟨by decide,Gg⟩) (λi hi=>by omega)
  · exact hs
  · exact R9 _ _ _ _ (.inr ⟨by decide,Gg⟩) (.inl ⟨by decide,OC⟩) (.inl ⟨by decide,OD⟩) (λi hi=>by omega)
  · exact ht
  · exact R7 _ r27
  · exact o2
  · exact ok_one GQ
 have hj:=Ie ps hall (by omega);have hjl:=(dI (ps.map (·.1))).1;have hS:∀ n,Ah ps n↔n=1+t1.code.length\/n=1+t1.code.length+3+s.code.length+1\/n=1+t1.code.length+3+s.code.length\/n=1+t1.code.length+3+s.code.length+2+t.code.length:=λn=>by
  simp only[ps,Ah,Ad,ah,List.length_cons,List.length_nil,and_false,false_or,or_false];omega
 refine SS hj _ _ _ _ hS (by omega) ⟨23,0,0,0,0⟩ ⟨25,0,0,0,0⟩ ⟨22,0,0,0,0⟩ ⟨27,0,0,0,0⟩ ?_ ?_ ?_ ?_ (.inl ⟨by decide,by decide⟩) (.inl ⟨by decide,by decide⟩) (by omega)
 · exact yC _ [ah [lK],t1] (ah [⟨23,0,0,0,0⟩,jU]) _ _ 0 _ rfl (by simp[aO,ah]) rfl
 · exact yC _ [ah [lK],t1,ah [⟨23,0,0,0,0⟩,jU],s] (ah [jU,⟨22,0,0,0,0⟩,⟨25,0,0,0,0⟩]) _ _ 2 _ rfl (by simp[aO,ah];omega) rfl
 · exact yC _ [ah [lK],t1,ah [⟨23,0,0,0,0⟩,jU],s] (ah [jU,⟨22,0,0,0,0⟩,⟨25,0,0,0,0⟩]) _ _ 1 _ rfl (by simp[aO,ah];omega) rfl
 · exact yC _ [ah [lK],t1,ah [⟨23,0,0,0,0⟩,jU],s,ah [jU,⟨22,0,0,0,0⟩,⟨25,0,0,0,0⟩],t] (ah [⟨27,0,0,0,0⟩]) _ _ 0 _ rfl (by simp[aO,ah];omega) rfl
theorem aaQ {f:ax} (hf:eP f) {e1 e2:Tree} (h1:aN e1=true) (h2:aN e2=true) (hs1:aI e1<=80) (hs2:aI e2<=80) {s t:aB} (hs:Ok0 s) (ht:Ok0 t) (hl:(rZ f e1 s t e2).code.length<=65536):Ok0 (rZ f e1 s t e2):=by
 have hlen:=(QE f e1 e2 s t).1;have l1:=(yB f e1).1;have l2:=(yB f e2).1;have o1:=Ig hf h1 hs1;have o2:=Ig hf h2 hs2;rw[hlen]at hl;have r24:Raw ⟨24,0,0,0,0⟩:=Ck _ _ (by decide) (by decide);have r26:Raw ⟨26,0,0,0,0⟩:=Ck _ _ (by decide) (by decide);have OC:Raw ⟨22,0,0,0,0⟩:=Io _ (by decide);have OD:Raw ⟨25,0,0,0,0⟩:=Io _ (by decide);unfold rZ;simp only[];generalize dW f e1=t1 at *;generalize dW f e2=t2 at *
 let ps:List (aB × (Nat->Prop)):=[(ah [jU,⟨26,0,0,0,0⟩],λi=>i=1),(t1,λ_=>False),(ah [lK],λ_=>False),(s,λ_=>False),(ah [lK],λ_=>False),(t2,λ_=>False),(ah [⟨24,0,0,0,0⟩],λi=>i=0),(t,λ_=>False),(ah [⟨22,0,0,0,0⟩,⟨25,0,0,0,0⟩,jU],λi=>i=0\/i=1)]
 have hps:aO (ps.map (·.1))=(bW f e1).length * 2+2 * (bW f e2).length+14+s.code.length+t.code.length:=by
  simp only[ps,aO,List.map_cons,List.map_nil,List.sum_cons,List.sum_nil,l1,l2];simp only[ah,List.length_cons,List.length_nil];omega
 have hall:∀ x∈ps,gY x.2 x.1:=λx hx=>by
  simp only[ps,List.mem_cons,List.not_mem_nil,or_false]at hx;rcases hx with rfl|rfl|rfl|rfl|rfl|rfl|rfl|rfl|rfl
  · exact R8 _ _ _ (.inr ⟨by decide,Gg⟩) (.inl ⟨rfl,r26⟩) (λi hi=>by omega)
  · exact o1
  · exact ok_one GQ
  · exact hs
  · exact ok_one GQ
  · exact o2
  · exact R7 _ r24
  · exact ht
  · exact R9 _ _ _ _ (.inl ⟨by decide,OC⟩) (.inl ⟨by decide,OD⟩) (.inr ⟨by decide,Gg⟩) (λi hi=>by omega)
 have hj:=Ie ps hall (by omega);have hjl:=(dI (ps.map (·.1))).1;have hS:∀ n,Ah ps n↔n=1\/n=4+t1.code.length+s.code.length+t2.code.length+1+t.code.length\/n=4+t1.code.length+s.code.length+t2.code.length\/n=4+t1.code.length+s.code.length+t2.code.length+1+t.code.length+1:=λn=>by
  simp only[ps,Ah,Ad,ah,List.length_cons,List.length_nil,and_false,false_or,or_false];omega
 refine SS hj _ _ _ _ hS (by omega) ⟨26,0,0,0,0⟩ ⟨22,0,0,0,0⟩ ⟨24,0,0,0,0⟩ ⟨25,0,0,0,0⟩ ?_ ?_ ?_ ?_ (.inr ⟨by decide,by decide⟩) (.inl ⟨by decide,by decide⟩) (by omega)
 · exact yC _ [] (ah [jU,⟨26,0,0,0,0⟩]) _ _ 1 _ rfl (by simp[aO,ah]) rfl
 · exact yC _ [ah [jU,⟨26,0,0,0,0⟩],t1,ah [lK],s,ah [lK],t2,ah [⟨24,0,0,0,0⟩],t] (ah [⟨22,0,0,0,0⟩,⟨25,0,0,0,0⟩,jU]) _ _ 0 _ rfl (by simp[aO,ah];omega) rfl
 · exact yC _ [ah [jU,⟨26,0,0,0,0⟩],t1,ah [lK],s,ah [lK],t2] (ah [⟨24,0,0,0,0⟩]) _ _ 0 _ rfl (by simp[aO,ah];omega) rfl
 · exact yC _ [ah [jU,⟨26,0,0,0,0⟩],t1,ah [lK],s,ah [lK],t2,ah [⟨24,0,0,0,0⟩],t] (ah [⟨22,0,0,0,0⟩,⟨25,0,0,0,0⟩,jU]) _ _ 1 _ rfl (by simp[aO,ah];omega) rfl
theorem Cm {a b c d:Ins} (ha:bT a) (hb:bT b) (hc:bT c) (hd:bT d):Ok0 (ah [a,b,c,d]):=wU _ λx hx=>by
 simp only[List.mem_cons,List.not_mem_nil,or_false]at hx;rcases hx with rfl|rfl|rfl|rfl <;> assumption
theorem tO:bT ⟨21,5,16,0,0⟩:=Rh 5 16 (by decide) (by decide)
theorem yO:bT ⟨3,5,4,0,0⟩:=Ab 3 5 4 (by decide) (by decide) (by decide) (by decide)
theorem aar {f:ax} (hf:eP f) (name:ByteArray) {e1 e2:Tree} (h1:aN e1=true) (h2:aN e2=true) (hs1:aI e1<=80) (hs2:aI e2<=80) {s:aB} (hs:Ok0 s) (hl:(lJ f name e1 s e2).code.length<=65536):Ok0 (lJ f name e1 s e2):=by
 have hc:=vw hf name 1 5 (by decide);unfold lJ at hl ⊢;rw[(dI _).1]at hl;refine rU _ (λp hp => ?_) hl;simp only[List.mem_cons,List.not_mem_nil,or_false]at hp;rcases hp with rfl|rfl|rfl
 · exact qF hf h1 hs1 _ rfl (Cm hc tO yO hc) (by simp[ah])
 · exact hs
 · exact qF hf h2 hs2 _ rfl (Cm hc yO tO hc) (by simp[ah])
theorem Xx {f:ax} (hf:eP f) (name:ByteArray) {s:aB} (hs:Ok0 s) (hl:(lG f name s).code.length<=65536):Ok0 (lG f name s):=by
 have hc:bT ⟨15,5,aj f name 3,0,0⟩:=gI 15 5 _ (by decide) (by decide) (by have:=hf.a name 3;omega);have he:Ok0 (Ac f name):=su hc tO hc;unfold lG at hl ⊢;rw[(dI _).1]at hl;refine rU _ (λp hp => ?_) hl;simp only[List.mem_cons,List.not_mem_nil,or_false]at hp;rcases hp with rfl|rfl|rfl
 · exact he
 · exact hs
 · exact he
theorem abe {f:ax} (hf:eP f) (x:Int) (hx:0<=x/\x<=1000) (s:dA) (hs:(0<=s.len/\s.len<=16)/\0<=s.at'/\s.at'<=16 * 32):∀ p∈pF f x s,Ok0 p:=λp hp=>by
 have hc:=hf.c;have ht:=hf.s;unfold pF at hp;split at hp
 · rw[List.mem_singleton.1 hp];exact ok_one (K9 16 _ _ (by decide) (by omega) (by omega))
 · obtain⟨j,hj,rfl⟩:=List.mem_map.1 hp;have hj:=List.mem_range.1 hj;have afo:j<17:=by
    split at hj <;> omega
   exact su (yL _ _ (by decide) (by omega)) (yL _ _ (by decide) (by omega)) (yL _ _ (by decide) (by omega))
theorem aas (op:Int) (ho:op=30\/op=31) (name:ByteArray):Ok0 ⟨[⟨op,0,0,0,0⟩],[⟨0,name⟩]⟩:=by
 have hm:∀ x∈[(⟨op,0,0,0,0⟩:Ins)],x=⟨op,0,0,0,0⟩:=λx hx=>List.mem_singleton.1 hx;refine⟨λx hx => ?_,λi x hx _ => ?_,λi h=>h.elim,λi x hx _ hmv => ?_,λx hx _ => ?_,?_⟩
 · rw[hm x hx];rcases ho with rfl|rfl <;> decide
 · rw[hm x (List.mem_of_getElem? hx)];rcases ho with rfl|rfl <;> decide
 · rw[hm x (List.mem_of_getElem? hx)]at hmv;rcases ho with rfl|rfl <;> cases hmv
 · rw[hm x hx]
 · rcases ho with rfl|rfl <;> rfl
theorem Sa {f:ax} (hf:eP f) (procs:List bQ) (op:Int) (ho:op=30\/op=31) (name:ByteArray) (kids:List Tree)
 (hp:∀ x∈(frameC (((tV procs name).map bQ.params).getD [])).slots,(0<=x.len/\x.len<=16)/\0<=x.at'/\x.at'<=16 * 32) (hl:(si f procs op name kids).code.length<=65536):Ok0 (si f procs op name kids):=by
 have hth:∀ p∈ji f kids (frameC (((tV procs name).map bQ.params).getD [])).slots,Ok0 p:=λp hpm=>by
  unfold ji at hpm;obtain⟨q,hq,hpq⟩:=List.mem_flatten.1 hpm;obtain⟨x,hx,rfl⟩:=List.mem_map.1 hq;have hxs:=(List.of_mem_zip (a:=x.1) (b:=x.2) hx).2;exact abe hf _ (hf.a _ _) _ (hp _ hxs) p hpq
 have hc:=hf.c;have hs:=hf.s;unfold si at hl ⊢;simp only[]at hl ⊢;generalize ji f kids _=A at *;have hr:=(P8 A).1;have hlA:=(dI A).1;have hlR:=(dI A.reverse).1;rw[(dI _).1]at hl;have hsum:aO [aL A,ah [⟨28,f.cells,f.stacks,0,0⟩],⟨[⟨op,0,0,0,0⟩],[⟨0,name⟩]⟩,ah [⟨29,f.cells,f.stacks,0,0⟩],aL A.reverse]=aO A+3+aO A:=by
  simp only[aO,List.map_cons,List.map_nil,List.sum_cons,List.sum_nil];rw[hlA,hlR,hr];simp only[ah,List.length_cons,List.length_nil,aO];omega
 refine rU _ (λp hp => ?_) hl;rw[hsum]at hl;simp only[List.mem_cons,List.not_mem_nil,or_false]at hp;rcases hp with rfl|rfl|rfl|rfl|rfl
 · exact rU A hth (by omega)
 · exact ok_one (K9 28 _ _ (by decide) (by omega) (by omega))
 · exact aas op ho name
 · exact ok_one (K9 29 _ _ (by decide) (by omega) (by omega))
 · exact rU A.reverse (λp hp=>hth p (List.mem_reverse.1 hp)) (by omega)
def uS (procs:List bQ):Prop:=∀ s,∀ x∈(frameC (((tV procs s).map bQ.params).getD [])).slots,(0<=x.len/\x.len<=16)/\0<=x.at'/\x.at'<=16 * 32
theorem pY.prb {procs:List ak} (h:pY procs):uS (procs.map ak.d):=λs x hx=>by
 rw[Dg]at hx;have:=(GN _ (h.find s)).2.2 x hx;omega
theorem uS.ok {procs:List bQ} (h:uS procs):Cz procs:=λs x hx=>(h s x hx).1.2
theorem getD_at (l:List Tree) (i:Nat) (h:i<l.length):l.getD i dx=l[i]:=by
 rw[List.getD_eq_getElem?_getD,List.getElem?_eq_getElem h];rfl
theorem X4 {f:ax} (hf:eP f) (procs:List bQ) (hp:uS procs) (k n:Int) (s:ByteArray) (l:List Tree) (hb:bq (.mk k n s l)=true) (hs:aI (.mk k n s l)<=80)
 (ih:∀ i,(jC l).getD i false=true->Ok0 ((eY f procs l).getD i cB)):Ok0 (dX f procs (.mk k n s l)):=by
 have hlen:=(K8 f procs hp.ok (.mk k n s l)).1;have gD:(dX f procs (.mk k n s l)).code.length<=65536:=by omega
 clear hlen;have hsz:1+cu l<=80:=by rw[aI]at hs;exact hs
 have hsi:∀ (i:Nat) (hi:i<l.length),aI (l.getD i dx)<=80:=λi hi=>by
  rw[getD_at l i hi];have:=vg l i hi;omega
 have hkb:∀ (ps:List (Tree->Bool)),bI ps l=true->l.length=ps.length/\∀ (i:Nat) (h1:i<ps.length) (h2:i<l.length),ps[i] (l.getD i dx)=true:=λps h=>by
  refine⟨tC _ _ h,λi h1 h2 => ?_⟩;rw[getD_at l i h2];exact zY _ _ h i h1 h2
 have hat:=λk=>hf.a s k;rw[eD]at gD ⊢;rw[bq]at hb;by_cases pM:k=56
 · rw[if_neg (by omega),if_neg (by omega),if_neg (by omega),if_neg (by omega),if_neg (by omega),if_neg (by omega),if_neg (by omega),if_neg (by omega),if_neg (by omega),if_neg (by omega),if_neg (by omega),if_neg (by omega),if_neg (by omega),if_neg (by omega)]at gD ⊢;exact Sa hf procs _ (by split <;> simp) s l (hp s) gD
 by_cases uz:k=40
 · subst uz;simp only[true_or,or_true,if_true,Bool.and_eq_true]at hb;obtain⟨hl,hq⟩:=hkb _ hb.2;simp only[List.length_cons,List.length_nil]at hl;rw[if_pos rfl];exact La hf (hq 0 (by simp) (by omega)) (hq 1 (by simp) (by omega)) (hsi 0 (by omega)) (hsi 1 (by omega)) 1 (by decide)
 rw[if_neg uz]at gD ⊢;by_cases uA:k=41
 · subst uA;simp only[true_or,or_true,if_true,Bool.and_eq_true]at hb;obtain⟨hl,hq⟩:=hkb _ hb.2;simp only[List.length_cons,List.length_nil]at hl;rw[if_pos rfl];exact La hf (hq 0 (by simp) (by omega)) (hq 1 (by simp) (by omega)) (hsi 0 (by omega)) (hsi 1 (by omega)) 2 (by decide)
 rw[if_neg uA]at gD ⊢;by_cases uB:k=42
 · subst uB;simp only[true_or,or_true,if_true,Bool.and_eq_true]at hb;obtain⟨hl,hq⟩:=hkb _ hb.2;simp only[List.length_cons,List.length_nil]at hl;rw[if_pos rfl];exact La hf (hq 0 (by simp) (by omega)) (hq 1 (by simp) (by omega)) (hsi 0 (by omega)) (hsi 1 (by omega)) 3 (by decide)
 rw[if_neg uB]at gD ⊢;rw[if_neg (by simp only[uz,uA,uB,pM,or_self,not_false_eq_true])]at hb;by_cases h43:k=43
 · subst h43;simp only[if_true,Bool.and_eq_true]at hb;obtain⟨hl,hq⟩:=hkb _ hb.2;simp only[List.length_cons,List.length_nil]at hl;rw[if_pos rfl];exact aaP hf (hq 0 (by simp) (by omega)) (hq 1 (by simp) (by omega)) (hsi 0 (by omega)) (hsi 1 (by omega))
 rw[if_neg h43]at gD ⊢ hb;have hmv:bI [dJ] l=true->∀ i,bT i->Ok0 (moveC f (l.getD 0 dx) i):=λh i hi=>by
  obtain⟨hl,hq⟩:=hkb _ h;simp only[List.length_cons,List.length_nil]at hl;exact aaO hf (hq 0 (by simp) (by omega)) (hsi 0 (by omega)) i hi
 by_cases oq:k=44
 · subst oq;simp only[true_or,or_true,if_true,Bool.and_eq_true]at hb;rw[if_pos rfl];exact hmv hb.2 _ (gI 12 5 _ (by decide) (by decide) (by have:=hat 3;omega))
 rw[if_neg oq]at gD ⊢;by_cases h45:k=45
 · subst h45;simp only[true_or,or_true,if_true,Bool.and_eq_true]at hb;rw[if_pos rfl];exact hmv hb.2 _ (gI 13 5 _ (by decide) (by decide) (by have:=hat 3;omega))
 rw[if_neg h45]at gD ⊢;rw[if_neg (by simp only[oq,h45,or_self,not_false_eq_true])]at hb;have FH:(k=46\/k=47\/k=48\/k=49)->bI [dJ] l=true:=λh=>by
  rw[if_pos h,Bool.and_eq_true]at hb;exact hb.2
 by_cases h46:k=46
 · rw[if_pos h46];exact hmv (FH (by omega)) _ (wP 17 5 (by decide) (by decide))
 rw[if_neg h46]at gD ⊢;by_cases h47:k=47
 · rw[if_pos h47];exact hmv (FH (by omega)) _ (wP 18 5 (by decide) (by decide))
 rw[if_neg h47]at gD ⊢;by_cases h48:k=48
 · rw[if_pos h48];exact hmv (FH (by omega)) _ (wP 19 5 (by decide) (by decide))
 rw[if_neg h48]at gD ⊢;by_cases vU:k=49
 · rw[if_pos vU];exact hmv (FH (by omega)) _ (wP 20 5 (by decide) (by decide))
 rw[if_neg vU]at gD ⊢;clear FH hmv;rw[if_neg (by omega)]at hb;have aey:k=50\/k=51\/(k≠50/\k≠51):=by omega
 by_cases vV:k=52
 · subst vV;simp only[show ¬ ((52:Int)=50\/(52:Int)=51) by decide,true_or,if_true,if_false,Bool.and_eq_true]at hb;obtain⟨hl,hq⟩:=hkb _ hb.2.1;simp only[List.length_cons,List.length_nil]at hl;rw[if_pos rfl]at gD ⊢;exact _I hf (hq 0 (by simp) (by omega)) (hq 3 (by simp) (by omega)) (hsi 0 (by omega)) (hsi 3 (by omega)) (ih 1 hb.2.2.1) (ih 2 hb.2.2.2) gD
 rw[if_neg vV]at gD ⊢;by_cases vW:k=53
 · subst vW;simp only[show ¬ ((53:Int)=50\/(53:Int)=51) by decide,or_true,if_true,if_false,Bool.and_eq_true]at hb;obtain⟨hl,hq⟩:=hkb _ hb.2.1;simp only[List.length_cons,List.length_nil]at hl;rw[if_pos rfl]at gD ⊢;exact aaQ hf (hq 0 (by simp) (by omega)) (hq 3 (by simp) (by omega)) (hsi 0 (by omega)) (hsi 3 (by omega)) (ih 1 hb.2.2.1) (ih 2 hb.2.2.2) gD
 rw[if_neg vW]at gD ⊢;by_cases ou:k=54
 · subst ou;simp only[show ¬ ((54:Int)=50\/(54:Int)=51) by decide,show ¬ ((54:Int)=52\/(54:Int)=53) by decide,if_true,if_false,Bool.and_eq_true]at hb;obtain⟨hl,hq⟩:=hkb _ hb.2.1;simp only[List.length_cons,List.length_nil]at hl;rw[if_pos rfl]at gD ⊢;exact aar hf s (hq 0 (by simp) (by omega)) (hq 2 (by simp) (by omega)) (hsi 0 (by omega)) (hsi 2 (by omega)) (ih 1 hb.2.2) gD
 rw[if_neg ou]at gD ⊢;by_cases mr:k=55
 · subst mr;simp only[show ¬ ((55:Int)=50\/(55:Int)=51) by decide,show ¬ ((55:Int)=52\/(55:Int)=53) by decide,show ¬ ((55:Int)=54) by decide,if_true,if_false,Bool.and_eq_true]at hb;rw[if_pos rfl]at gD ⊢;exact Xx hf s (ih 0 hb.2.2) gD
 rw[if_neg mr]at gD ⊢;exact Sa hf procs _ (by split <;> simp) s l (hp s) gD
mutual
theorem aaR {f:ax} (hf:eP f) (procs:List bQ) (hp:uS procs):∀ (t:Tree),bq t=true->aI t<=80->Ok0 (dX f procs t)
 |.mk k n s l,hb,hs=>X4 hf procs hp k n s l hb hs (λi hi=>Sb hf procs hp l (by rw[aI]at hs;omega) i hi)
theorem Sb {f:ax} (hf:eP f) (procs:List bQ) (hp:uS procs):∀ (l:List Tree),cu l<=80->∀ i,(jC l).getD i false=true->Ok0 ((eY f procs l).getD i cB)
 | [],_,i,h=>by simp[jC]at h
 |t :: l,hs,0,h=>by
  rw[cu]at hs;exact Lr hf procs hp t (by simpa[jC]using h) (by omega)
 |t :: l,hs,i+1,h=>by
  rw[cu]at hs;have:=Sb hf procs hp l (by omega) i (by simpa[jC]using h)
  simpa[eY]using this
theorem Lr {f:ax} (hf:eP f) (procs:List bQ) (hp:uS procs):∀ (t:Tree),bF t=true->aI t<=80->Ok0 (aQ f procs t)
 |.mk k n s l,hb,hs=>by
  have hlen:=(GM f procs hp.ok (.mk k n s l)).1;rw[aQ]at hlen ⊢;rw[(dI _).1]at hlen;rw[bF]at hb;simp only[Bool.and_eq_true]at hb;exact rU _ (Ls hf procs hp l hb.2.2 (by rw[aI]at hs;omega)) (by omega)
theorem Ls {f:ax} (hf:eP f) (procs:List bQ) (hp:uS procs):∀ (l:List Tree),wO l=true->cu l<=80->∀ p∈qE f procs l,Ok0 p
 | [],_,_,p,h=>by rw[qE]at h;cases h
 |t :: l,hb,hs,p,h=>by
  rw[cu]at hs;rw[wO,Bool.and_eq_true]at hb;rw[qE]at h;rcases List.mem_cons.1 h with rfl|h
  · exact aaR hf procs hp t hb.1 (by omega)
  · exact Ls hf procs hp l hb.2 (by omega) p h
end
end Go.Proofs.YtnobahchcongnaaGreatDoor
