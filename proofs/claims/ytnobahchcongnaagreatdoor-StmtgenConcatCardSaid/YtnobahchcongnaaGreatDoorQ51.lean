import Derived.Test.YtnobahchcongnaaGreatDoorQ50
set_option linter.unusedSimpArgs false
set_option linter.unusedVariables false
set_option maxRecDepth 100000
set_option maxHeartbeats 25600000
namespace Go.Proofs.YtnobahchcongnaaGreatDoor
section
open Go.RowKit Go.Instr
theorem Ng {l:List Ins} {k:Nat} {x:Ins} (a:Int) (h:l[k]? = some x):(bU l a)[k]? = some (x.shift a):=by
 unfold bU;rw [List.getElem?_map,h];rfl
theorem Ea (l:List Ins) (a:Int):(bU l a).length=l.length:=by unfold bU;exact List.length_map _
theorem OD (p:aC) (b:List aC) (k:Nat) (x:Ins) (h:p.code[k]? = some x):∀ (a:List aC),∃ y,(aK (a ++ p :: b)).code[aP a+k]? = some y∧y.op=x.op
 | []=>by
  have hl:=om h;refine ⟨x.shift 0,?_,tV _ _⟩;rw [List.nil_append,Ia];have:=Ng 0 h;simp only [eZ,cO,List.nil_append,aP,List.map_nil,List.sum_nil,Nat.zero_add,List.length_nil];rw [List.getElem?_append_left (by rw [Ea];exact hl)];exact this
 | q :: a=>by
  obtain ⟨y,hy,ho⟩:=OD p b k x h a;refine ⟨y.shift q.code.length,?_,by rw [tV];exact ho⟩;rw [List.cons_append,Ia];have hs:=Ng (q.code.length:Int) hy;have ht:aP (q :: a)=q.code.length+aP a:=by simp [aP]
  simp only [eZ,cO,List.nil_append,List.length_nil];rw [ht,Ea,List.getElem?_append_right (by rw [Ea];omega),Ea,show q.code.length+aP a+k - q.code.length=aP a+k from by omega];exact hs
theorem wS (l a:List aC) (p:aC) (b:List aC) (i k:Nat) (x:Ins) (hl:l=a ++ p :: b) (hi:i=aP a+k) (h:p.code[k]? = some x):∃ y,(aK l).code[i]? = some y∧y.op=x.op:=by
 subst hl;subst hi;exact OD p b k x h a
theorem NW {p:aC} {i j k:Nat} (h1:k≠i) (h2:k≠j):(fU p i j).code[k]? = p.code[k]? := by
 unfold fU;split
 · simp only [];rw [List.getElem?_set_ne (fun e=>h2 e.symm),List.getElem?_set_ne (fun e=>h1 e.symm)]
 · rfl
theorem Qa {S:Nat→Prop} {p:aC} (h:gp S p) (i j k l:Nat) (hS:∀ n,S n↔n=i∨n=j∨n=k∨n=l) (hd:i≠j∧i≠k∧i≠l∧j≠k∧j≠l∧k≠l) (x y z u:Ins)
 (hx:∃ v,p.code[i]? = some v∧v.op=x.op) (hy:∃ v,p.code[j]? = some v∧v.op=y.op) (hz:∃ v,p.code[k]? = some v∧v.op=z.op) (hu:∃ v,p.code[l]? = some v∧v.op=u.op)
 (ho:qp x y) (ho':qp z u) (hl:p.code.length≤65536):Ok0 (fU (fU p i j) k l):=by
 obtain ⟨d1,d2,d3,d4,d5,d6⟩:=hd;obtain ⟨x',hx,ex⟩:=hx;obtain ⟨y',hy,ey⟩:=hy;obtain ⟨z',hz,ez⟩:=hz;obtain ⟨u',hu,eu⟩:=hu;have h1:=h.pair i j ((hS i).2 (.inl rfl)) ((hS j).2 (.inr (.inl rfl))) d1 x' y' hx hy (by unfold qp at *;rw [ex,ey];exact ho) hl;have hz':(fU p i j).code[k]? = some z':=by rw [NW (fun e=>d2 e.symm) (fun e=>d4 e.symm)];exact hz
 have hu':(fU p i j).code[l]? = some u':=by rw [NW (fun e=>d3 e.symm) (fun e=>d5 e.symm)];exact hu
 have h2:=h1.pair k l ⟨(hS k).2 (.inr (.inr (.inl rfl))),fun e=>d2 e.symm,fun e=>d4 e.symm⟩ ⟨(hS l).2 (.inr (.inr (.inr rfl))),fun e=>d3 e.symm,fun e=>d5 e.symm⟩ d6 z' u' hz' hu' (by unfold qp at *;rw [ez,eu];exact ho') (by rw [(rO _ _ _).1];exact hl);refine h2.congr fun n=>⟨fun hn => ?_,fun hn=>hn.elim⟩;obtain ⟨⟨hs,a1,a2⟩,a3,a4⟩:=hn;rcases (hS n).1 hs with e | e | e | e
 · exact a1 e
 · exact a2 e
 · exact a3 e
 · exact a4 e
theorem Ew:dD kU:=OC 0 15 (by decide) (by decide)
theorem Eb:dD jE:=OB 0 1 (by decide)
theorem ok_one {x:Ins} (h:dD x):Ok0 (ah [x]):=yj _ fun y hy=>by rw [List.mem_singleton.1 hy];exact h
theorem Pk (x:Ins) (hx:Raw x):gp (fun i=>i=0) (ah [x]) :=
 BJ _ _ (fun i y hy=>by
  have hi:=om hy;simp only [List.length_cons,List.length_nil] at hi;have:i=0:=by omega
  subst this;simp only [List.getElem?_cons_zero,Option.some.injEq] at hy;subst hy;exact .inl ⟨rfl,hx⟩) (fun i hi=>by simp;omega)
theorem Pm (S:Nat→Prop) (x y:Ins) (h0:(S 0∧Raw x)∨(¬ S 0∧dD x)) (h1:(S 1∧Raw y)∨(¬ S 1∧dD y)) (hS:∀ i,S i→i<2):gp S (ah [x,y]) :=
 BJ _ _ (fun i z hz=>by
  have hi:=om hz;simp only [List.length_cons,List.length_nil] at hi;have hc:i=0∨i=1:=by omega
  rcases hc with rfl | rfl
  all_goals
   simp only [List.getElem?_cons_zero,List.getElem?_cons_succ,Option.some.injEq] at hz;subst hz
  · exact h0
  · exact h1) hS
theorem Pn (S:Nat→Prop) (x y u:Ins) (h0:(S 0∧Raw x)∨(¬ S 0∧dD x)) (h1:(S 1∧Raw y)∨(¬ S 1∧dD y)) (h2:(S 2∧Raw u)∨(¬ S 2∧dD u)) (hS:∀ i,S i→i<3):gp S (ah [x,y,u]) :=
 BJ _ _ (fun i z hz=>by
  have hi:=om hz;simp only [List.length_cons,List.length_nil] at hi;have hc:i=0∨i=1∨i=2:=by omega
  rcases hc with rfl | rfl | rfl
  all_goals
   simp only [List.getElem?_cons_zero,List.getElem?_cons_succ,Option.some.injEq] at hz;subst hz
  · exact h0
  · exact h1
  · exact h2) hS
theorem X8 {f:az} (hf:gN f) {e1 e2:Tree} (h1:aI e1=true) (h2:aI e2=true) (hs1:aW e1≤80) (hs2:aW e2≤80) {s t:aC} (hs:Ok0 s) (ht:Ok0 t) (hl:(qF f e1 s t e2).code.length≤65536):Ok0 (qF f e1 s t e2):=by
 have hlen:=(MC f e1 e2 s t).1;have l1:=(wQ f e1).1;have l2:=(wQ f e2).1;have o1:=Fe hf h1 hs1;have o2:=Fe hf h2 hs2;rw [hlen] at hl;have r23:Raw ⟨23,0,0,0,0⟩:=Ah _ _ (by decide) (by decide);have r27:Raw ⟨27,0,0,0,0⟩:=Ah _ _ (by decide) (by decide);have LG:Raw ⟨22,0,0,0,0⟩:=Fs _ (by decide);have LH:Raw ⟨25,0,0,0,0⟩:=Fs _ (by decide);unfold qF;simp only [];generalize ed f e1=t1 at *;generalize ed f e2=t2 at *
 let ps:List (aC × (Nat→Prop)):=[(ah [kU],fun _=>False),(t1,fun _=>False),(ah [⟨23,0,0,0,0⟩,jE],fun i=>i=0),(s,fun _=>False),(ah [jE,⟨22,0,0,0,0⟩,⟨25,0,0,0,0⟩],fun i=>i=1∨i=2),(t,fun _=>False),(ah [⟨27,0,0,0,0⟩],fun i=>i=0),(t2,fun _=>False),(ah [kU],fun _=>False)]
 have hps:aP (ps.map (·.1))=(dC f e1).length * 2+2 * (dC f e2).length+14+s.code.length+t.code.length:=by
  simp only [ps,aP,List.map_cons,List.map_nil,List.sum_cons,List.sum_nil,l1,l2];simp only [ah,List.length_cons,List.length_nil];omega
 have hall:∀ x∈ps,gp x.2 x.1:=fun x hx=>by
  simp only [ps,List.mem_cons,List.not_mem_nil,or_false] at hx;rcases hx with rfl | rfl | rfl | rfl | rfl | rfl | rfl | rfl | rfl
  · exact ok_one Ew
  · exact o1
  · exact Pm _ _ _ (.inl ⟨rfl,r23⟩) (.inr ⟨by decide,Eb⟩) (fun i hi=>by omega)
  · exact hs
  · exact Pn _ _ _ _ (.inr ⟨by decide,Eb⟩) (.inl ⟨by decide,LG⟩) (.inl ⟨by decide,LH⟩) (fun i hi=>by omega)
  · exact ht
  · exact Pk _ r27
  · exact o2
  · exact ok_one Ew
 have hj:=Fb ps hall (by omega);have hjl:=(dY (ps.map (·.1))).1;have hS:∀ n,yz ps n↔n=1+t1.code.length∨n=1+t1.code.length+3+s.code.length+1∨n=1+t1.code.length+3+s.code.length∨n=1+t1.code.length+3+s.code.length+2+t.code.length:=fun n=>by
  simp only [ps,yz,yh,ah,List.length_cons,List.length_nil,and_false,false_or,or_false];omega
 refine Qa hj _ _ _ _ hS (by omega) ⟨23,0,0,0,0⟩ ⟨25,0,0,0,0⟩ ⟨22,0,0,0,0⟩ ⟨27,0,0,0,0⟩ ?_ ?_ ?_ ?_ (.inl ⟨by decide,by decide⟩) (.inl ⟨by decide,by decide⟩) (by omega)
 · exact wS _ [ah [kU],t1] (ah [⟨23,0,0,0,0⟩,jE]) _ _ 0 _ rfl (by simp [aP,ah]) rfl
 · exact wS _ [ah [kU],t1,ah [⟨23,0,0,0,0⟩,jE],s] (ah [jE,⟨22,0,0,0,0⟩,⟨25,0,0,0,0⟩]) _ _ 2 _ rfl (by simp [aP,ah];omega) rfl
 · exact wS _ [ah [kU],t1,ah [⟨23,0,0,0,0⟩,jE],s] (ah [jE,⟨22,0,0,0,0⟩,⟨25,0,0,0,0⟩]) _ _ 1 _ rfl (by simp [aP,ah];omega) rfl
 · exact wS _ [ah [kU],t1,ah [⟨23,0,0,0,0⟩,jE],s,ah [jE,⟨22,0,0,0,0⟩,⟨25,0,0,0,0⟩],t] (ah [⟨27,0,0,0,0⟩]) _ _ 0 _ rfl (by simp [aP,ah];omega) rfl
theorem YV {f:az} (hf:gN f) {e1 e2:Tree} (h1:aI e1=true) (h2:aI e2=true) (hs1:aW e1≤80) (hs2:aW e2≤80) {s t:aC} (hs:Ok0 s) (ht:Ok0 t) (hl:(qN f e1 s t e2).code.length≤65536):Ok0 (qN f e1 s t e2):=by
 have hlen:=(NH f e1 e2 s t).1;have l1:=(wQ f e1).1;have l2:=(wQ f e2).1;have o1:=Fe hf h1 hs1;have o2:=Fe hf h2 hs2;rw [hlen] at hl;have r24:Raw ⟨24,0,0,0,0⟩:=Ah _ _ (by decide) (by decide);have r26:Raw ⟨26,0,0,0,0⟩:=Ah _ _ (by decide) (by decide);have LG:Raw ⟨22,0,0,0,0⟩:=Fs _ (by decide);have LH:Raw ⟨25,0,0,0,0⟩:=Fs _ (by decide);unfold qN;simp only [];generalize ed f e1=t1 at *;generalize ed f e2=t2 at *
 let ps:List (aC × (Nat→Prop)):=[(ah [jE,⟨26,0,0,0,0⟩],fun i=>i=1),(t1,fun _=>False),(ah [kU],fun _=>False),(s,fun _=>False),(ah [kU],fun _=>False),(t2,fun _=>False),(ah [⟨24,0,0,0,0⟩],fun i=>i=0),(t,fun _=>False),(ah [⟨22,0,0,0,0⟩,⟨25,0,0,0,0⟩,jE],fun i=>i=0∨i=1)]
 have hps:aP (ps.map (·.1))=(dC f e1).length * 2+2 * (dC f e2).length+14+s.code.length+t.code.length:=by
  simp only [ps,aP,List.map_cons,List.map_nil,List.sum_cons,List.sum_nil,l1,l2];simp only [ah,List.length_cons,List.length_nil];omega
 have hall:∀ x∈ps,gp x.2 x.1:=fun x hx=>by
  simp only [ps,List.mem_cons,List.not_mem_nil,or_false] at hx;rcases hx with rfl | rfl | rfl | rfl | rfl | rfl | rfl | rfl | rfl
  · exact Pm _ _ _ (.inr ⟨by decide,Eb⟩) (.inl ⟨rfl,r26⟩) (fun i hi=>by omega)
  · exact o1
  · exact ok_one Ew
  · exact hs
  · exact ok_one Ew
  · exact o2
  · exact Pk _ r24
  · exact ht
  · exact Pn _ _ _ _ (.inl ⟨by decide,LG⟩) (.inl ⟨by decide,LH⟩) (.inr ⟨by decide,Eb⟩) (fun i hi=>by omega)
 have hj:=Fb ps hall (by omega);have hjl:=(dY (ps.map (·.1))).1;have hS:∀ n,yz ps n↔n=1∨n=4+t1.code.length+s.code.length+t2.code.length+1+t.code.length∨n=4+t1.code.length+s.code.length+t2.code.length∨n=4+t1.code.length+s.code.length+t2.code.length+1+t.code.length+1:=fun n=>by
  simp only [ps,yz,yh,ah,List.length_cons,List.length_nil,and_false,false_or,or_false];omega
 refine Qa hj _ _ _ _ hS (by omega) ⟨26,0,0,0,0⟩ ⟨22,0,0,0,0⟩ ⟨24,0,0,0,0⟩ ⟨25,0,0,0,0⟩ ?_ ?_ ?_ ?_ (.inr ⟨by decide,by decide⟩) (.inl ⟨by decide,by decide⟩) (by omega)
 · exact wS _ [] (ah [jE,⟨26,0,0,0,0⟩]) _ _ 1 _ rfl (by simp [aP,ah]) rfl
 · exact wS _ [ah [jE,⟨26,0,0,0,0⟩],t1,ah [kU],s,ah [kU],t2,ah [⟨24,0,0,0,0⟩],t] (ah [⟨22,0,0,0,0⟩,⟨25,0,0,0,0⟩,jE]) _ _ 0 _ rfl (by simp [aP,ah];omega) rfl
 · exact wS _ [ah [jE,⟨26,0,0,0,0⟩],t1,ah [kU],s,ah [kU],t2] (ah [⟨24,0,0,0,0⟩]) _ _ 0 _ rfl (by simp [aP,ah];omega) rfl
 · exact wS _ [ah [jE,⟨26,0,0,0,0⟩],t1,ah [kU],s,ah [kU],t2,ah [⟨24,0,0,0,0⟩],t] (ah [⟨22,0,0,0,0⟩,⟨25,0,0,0,0⟩,jE]) _ _ 1 _ rfl (by simp [aP,ah];omega) rfl
theorem Qb {a b c d:Ins} (ha:dD a) (hb:dD b) (hc:dD c) (hd:dD d):Ok0 (ah [a,b,c,d]):=yj _ fun x hx=>by
 simp only [List.mem_cons,List.not_mem_nil,or_false] at hx;rcases hx with rfl | rfl | rfl | rfl <;> assumption
theorem Jj:dD ⟨21,5,16,0,0⟩:=OC 5 16 (by decide) (by decide)
theorem Po:dD ⟨3,5,4,0,0⟩:=Ae 3 5 4 (by decide) (by decide) (by decide) (by decide)
theorem YG {f:az} (hf:gN f) (name:ByteArray) {e1 e2:Tree} (h1:aI e1=true) (h2:aI e2=true) (hs1:aW e1≤80) (hs2:aW e2≤80) {s:aC} (hs:Ok0 s) (hl:(qH f name e1 s e2).code.length≤65536):Ok0 (qH f name e1 s e2):=by
 have hc:=zX hf name 1 5 (by decide);unfold qH at hl ⊢;rw [(dY _).1] at hl;refine uX _ (fun p hp => ?_) hl;simp only [List.mem_cons,List.not_mem_nil,or_false] at hp;rcases hp with rfl | rfl | rfl
 · exact vB hf h1 hs1 _ rfl (Qb hc Jj Po hc) (by simp [ah])
 · exact hs
 · exact vB hf h2 hs2 _ rfl (Qb hc Po Jj hc) (by simp [ah])
theorem UW {f:az} (hf:gN f) (name:ByteArray) {s:aC} (hs:Ok0 s) (hl:(qy f name s).code.length≤65536):Ok0 (qy f name s):=by
 have hc:dD ⟨15,5,ak f name 3,0,0⟩:=iI 15 5 _ (by decide) (by decide) (by have:=hf.a name 3;omega);have he:Ok0 (EZ f name):=yA hc Jj hc;unfold qy at hl ⊢;rw [(dY _).1] at hl;refine uX _ (fun p hp => ?_) hl;simp only [List.mem_cons,List.not_mem_nil,or_false] at hp;rcases hp with rfl | rfl | rfl
 · exact he
 · exact hs
 · exact he
theorem Zg {f:az} (hf:gN f) (x:Int) (hx:0≤x∧x≤1000) (s:dF) (hs:(0≤s.len∧s.len≤16)∧0≤s.at'∧s.at'≤16 * 32):∀ p∈ow f x s,Ok0 p:=fun p hp=>by
 have hc:=hf.c;have ht:=hf.s;unfold ow at hp;split at hp
 · rw [List.mem_singleton.1 hp];exact ok_one (I1 16 _ _ (by decide) (by omega) (by omega))
 · obtain ⟨j,hj,rfl⟩:=List.mem_map.1 hp;have hj:=List.mem_range.1 hj;have acK:j<17:=by
    split at hj <;> omega
   exact yA (wV _ _ (by decide) (by omega)) (wV _ _ (by decide) (by omega)) (wV _ _ (by decide) (by omega))
theorem YH (op:Int) (ho:op=30∨op=31) (name:ByteArray):Ok0 ⟨[⟨op,0,0,0,0⟩],[⟨0,name⟩]⟩:=by
 have hm:∀ x∈[(⟨op,0,0,0,0⟩:Ins)],x=⟨op,0,0,0,0⟩:=fun x hx=>List.mem_singleton.1 hx;refine ⟨fun x hx => ?_,fun i x hx _ => ?_,fun i h=>h.elim,fun i x hx _ hmv => ?_,fun x hx _ => ?_,?_⟩
 · rw [hm x hx];rcases ho with rfl | rfl <;> decide
 · rw [hm x (List.mem_of_getElem? hx)];rcases ho with rfl | rfl <;> decide
 · rw [hm x (List.mem_of_getElem? hx)] at hmv;rcases ho with rfl | rfl <;> cases hmv
 · rw [hm x hx]
 · rcases ho with rfl | rfl <;> rfl
theorem Pp {f:az} (hf:gN f) (procs:List cB) (op:Int) (ho:op=30∨op=31) (name:ByteArray) (kids:List Tree)
 (hp:∀ x∈(frameC (((rU procs name).map cB.params).getD [])).slots,(0≤x.len∧x.len≤16)∧0≤x.at'∧x.at'≤16 * 32) (hl:(qO f procs op name kids).code.length≤65536):Ok0 (qO f procs op name kids):=by
 have hth:∀ p∈iL f kids (frameC (((rU procs name).map cB.params).getD [])).slots,Ok0 p:=fun p hpm=>by
  unfold iL at hpm;obtain ⟨q,hq,hpq⟩:=List.mem_flatten.1 hpm;obtain ⟨x,hx,rfl⟩:=List.mem_map.1 hq;have hxs:=(List.of_mem_zip (a:=x.1) (b:=x.2) hx).2;exact Zg hf _ (hf.a _ _) _ (hp _ hxs) p hpq
 have hc:=hf.c;have hs:=hf.s;unfold qO at hl ⊢;simp only [] at hl ⊢;generalize iL f kids _=A at *;have hr:=(MQ A).1;have hlA:=(dY A).1;have hlR:=(dY A.reverse).1;rw [(dY _).1] at hl;have hsum:aP [aK A,ah [⟨28,f.cells,f.stacks,0,0⟩],⟨[⟨op,0,0,0,0⟩],[⟨0,name⟩]⟩,ah [⟨29,f.cells,f.stacks,0,0⟩],aK A.reverse]=aP A+3+aP A:=by
  simp only [aP,List.map_cons,List.map_nil,List.sum_cons,List.sum_nil];rw [hlA,hlR,hr];simp only [ah,List.length_cons,List.length_nil,aP];omega
 refine uX _ (fun p hp => ?_) hl;rw [hsum] at hl;simp only [List.mem_cons,List.not_mem_nil,or_false] at hp;rcases hp with rfl | rfl | rfl | rfl | rfl
 · exact uX A hth (by omega)
 · exact ok_one (I1 28 _ _ (by decide) (by omega) (by omega))
 · exact YH op ho name
 · exact ok_one (I1 29 _ _ (by decide) (by omega) (by omega))
 · exact uX A.reverse (fun p hp=>hth p (List.mem_reverse.1 hp)) (by omega)
def wN (procs:List cB):Prop:=∀ s,∀ x∈(frameC (((rU procs s).map cB.params).getD [])).slots,(0≤x.len∧x.len≤16)∧0≤x.at'∧x.at'≤16 * 32
theorem oK.prb {procs:List aj} (h:oK procs):wN (procs.map aj.d):=fun s x hx=>by
 rw [Bc] at hx;have:=(Es _ (h.find s)).2.2 x hx;omega
theorem wN.ok {procs:List cB} (h:wN procs):Av procs:=fun s x hx=>(h s x hx).1.2
theorem getD_at (l:List Tree) (i:Nat) (h:i<l.length):l.getD i dG=l[i]:=by
 rw [List.getD_eq_getElem?_getD,List.getElem?_eq_getElem h];rfl
theorem Vj {f:az} (hf:gN f) (procs:List cB) (hp:wN procs) (k n:Int) (s:ByteArray) (l:List Tree) (hb:bg (.mk k n s l)=true) (hs:aW (.mk k n s l)≤80)
 (ih:∀ i,(lI l).getD i false=true→Ok0 ((iW f procs l).getD i cO)):Ok0 (fB f procs (.mk k n s l)):=by
 have hlen:=(Ot f procs hp.ok (.mk k n s l)).1;have iG:(fB f procs (.mk k n s l)).code.length≤65536:=by omega
 clear hlen;have hsz:1+cu l≤80:=by rw [aW] at hs;exact hs
 have hsi:∀ (i:Nat) (hi:i<l.length),aW (l.getD i dG)≤80:=fun i hi=>by
  rw [getD_at l i hi];have:=Bl l i hi;omega
 have hkb:∀ (ps:List (Tree→Bool)),bL ps l=true→l.length=ps.length∧∀ (i:Nat) (h1:i<ps.length) (h2:i<l.length),ps[i] (l.getD i dG)=true:=fun ps h=>by
  refine ⟨MR _ _ h,fun i h1 h2 => ?_⟩;rw [getD_at l i h2];exact NI _ _ h i h1 h2
 have hat:=fun k=>hf.a s k;rw [mr] at iG ⊢;rw [bg] at hb;by_cases uD:k=56
 · rw [if_neg (by omega),if_neg (by omega),if_neg (by omega),if_neg (by omega),if_neg (by omega),if_neg (by omega),if_neg (by omega),if_neg (by omega),if_neg (by omega),if_neg (by omega),if_neg (by omega),if_neg (by omega),if_neg (by omega),if_neg (by omega)] at iG ⊢;exact Pp hf procs _ (by split <;> simp) s l (hp s) iG
 by_cases rq:k=40
 · subst rq;simp only [true_or,or_true,if_true,Bool.and_eq_true] at hb;obtain ⟨hl,hq⟩:=hkb _ hb.2;simp only [List.length_cons,List.length_nil] at hl;rw [if_pos rfl];exact I4 hf (hq 0 (by simp) (by omega)) (hq 1 (by simp) (by omega)) (hsi 0 (by omega)) (hsi 1 (by omega)) 1 (by decide)
 rw [if_neg rq] at iG ⊢;by_cases ru:k=41
 · subst ru;simp only [true_or,or_true,if_true,Bool.and_eq_true] at hb;obtain ⟨hl,hq⟩:=hkb _ hb.2;simp only [List.length_cons,List.length_nil] at hl;rw [if_pos rfl];exact I4 hf (hq 0 (by simp) (by omega)) (hq 1 (by simp) (by omega)) (hsi 0 (by omega)) (hsi 1 (by omega)) 2 (by decide)
 rw [if_neg ru] at iG ⊢;by_cases ry:k=42
 · subst ry;simp only [true_or,or_true,if_true,Bool.and_eq_true] at hb;obtain ⟨hl,hq⟩:=hkb _ hb.2;simp only [List.length_cons,List.length_nil] at hl;rw [if_pos rfl];exact I4 hf (hq 0 (by simp) (by omega)) (hq 1 (by simp) (by omega)) (hsi 0 (by omega)) (hsi 1 (by omega)) 3 (by decide)
 rw [if_neg ry] at iG ⊢;rw [if_neg (by simp only [rq,ru,ry,uD,or_self,not_false_eq_true])] at hb;by_cases h43:k=43
 · subst h43;simp only [if_true,Bool.and_eq_true] at hb;obtain ⟨hl,hq⟩:=hkb _ hb.2;simp only [List.length_cons,List.length_nil] at hl;rw [if_pos rfl];exact YU hf (hq 0 (by simp) (by omega)) (hq 1 (by simp) (by omega)) (hsi 0 (by omega)) (hsi 1 (by omega))
 rw [if_neg h43] at iG ⊢ hb;have hmv:bL [dB] l=true→∀ i,dD i→Ok0 (moveC f (l.getD 0 dG) i):=fun h i hi=>by
  obtain ⟨hl,hq⟩:=hkb _ h;simp only [List.length_cons,List.length_nil] at hl;exact YT hf (hq 0 (by simp) (by omega)) (hsi 0 (by omega)) i hi
 by_cases lY:k=44
 · subst lY;simp only [true_or,or_true,if_true,Bool.and_eq_true] at hb;rw [if_pos rfl];exact hmv hb.2 _ (iI 12 5 _ (by decide) (by decide) (by have:=hat 3;omega))
 rw [if_neg lY] at iG ⊢;by_cases h45:k=45
 · subst h45;simp only [true_or,or_true,if_true,Bool.and_eq_true] at hb;rw [if_pos rfl];exact hmv hb.2 _ (iI 13 5 _ (by decide) (by decide) (by have:=hat 3;omega))
 rw [if_neg h45] at iG ⊢;rw [if_neg (by simp only [lY,h45,or_self,not_false_eq_true])] at hb;have DK:(k=46∨k=47∨k=48∨k=49)→bL [dB] l=true:=fun h=>by
  rw [if_pos h,Bool.and_eq_true] at hb;exact hb.2
 by_cases h46:k=46
 · rw [if_pos h46];exact hmv (DK (by omega)) _ (Bt 17 5 (by decide) (by decide))
 rw [if_neg h46] at iG ⊢;by_cases h47:k=47
 · rw [if_pos h47];exact hmv (DK (by omega)) _ (Bt 18 5 (by decide) (by decide))
 rw [if_neg h47] at iG ⊢;by_cases h48:k=48
 · rw [if_pos h48];exact hmv (DK (by omega)) _ (Bt 19 5 (by decide) (by decide))
 rw [if_neg h48] at iG ⊢;by_cases sJ:k=49
 · rw [if_pos sJ];exact hmv (DK (by omega)) _ (Bt 20 5 (by decide) (by decide))
 rw [if_neg sJ] at iG ⊢;clear DK hmv;rw [if_neg (by omega)] at hb;have abO:k=50∨k=51∨(k≠50∧k≠51):=by omega
 by_cases sK:k=52
 · subst sK;simp only [show ¬ ((52:Int)=50∨(52:Int)=51) by decide,true_or,if_true,if_false,Bool.and_eq_true] at hb;obtain ⟨hl,hq⟩:=hkb _ hb.2.1;simp only [List.length_cons,List.length_nil] at hl;rw [if_pos rfl] at iG ⊢;exact X8 hf (hq 0 (by simp) (by omega)) (hq 3 (by simp) (by omega)) (hsi 0 (by omega)) (hsi 3 (by omega)) (ih 1 hb.2.2.1) (ih 2 hb.2.2.2) iG
 rw [if_neg sK] at iG ⊢;by_cases sM:k=53
 · subst sM;simp only [show ¬ ((53:Int)=50∨(53:Int)=51) by decide,or_true,if_true,if_false,Bool.and_eq_true] at hb;obtain ⟨hl,hq⟩:=hkb _ hb.2.1;simp only [List.length_cons,List.length_nil] at hl;rw [if_pos rfl] at iG ⊢;exact YV hf (hq 0 (by simp) (by omega)) (hq 3 (by simp) (by omega)) (hsi 0 (by omega)) (hsi 3 (by omega)) (ih 1 hb.2.2.1) (ih 2 hb.2.2.2) iG
 rw [if_neg sM] at iG ⊢;by_cases mK:k=54
 · subst mK;simp only [show ¬ ((54:Int)=50∨(54:Int)=51) by decide,show ¬ ((54:Int)=52∨(54:Int)=53) by decide,if_true,if_false,Bool.and_eq_true] at hb;obtain ⟨hl,hq⟩:=hkb _ hb.2.1;simp only [List.length_cons,List.length_nil] at hl;rw [if_pos rfl] at iG ⊢;exact YG hf s (hq 0 (by simp) (by omega)) (hq 2 (by simp) (by omega)) (hsi 0 (by omega)) (hsi 2 (by omega)) (ih 1 hb.2.2) iG
 rw [if_neg mK] at iG ⊢;by_cases lu:k=55
 · subst lu;simp only [show ¬ ((55:Int)=50∨(55:Int)=51) by decide,show ¬ ((55:Int)=52∨(55:Int)=53) by decide,show ¬ ((55:Int)=54) by decide,if_true,if_false,Bool.and_eq_true] at hb;rw [if_pos rfl] at iG ⊢;exact UW hf s (ih 0 hb.2.2) iG
 rw [if_neg lu] at iG ⊢;exact Pp hf procs _ (by split <;> simp) s l (hp s) iG
mutual
theorem YW {f:az} (hf:gN f) (procs:List cB) (hp:wN procs):∀ (t:Tree),bg t=true→aW t≤80→Ok0 (fB f procs t)
 | .mk k n s l,hb,hs=>Vj hf procs hp k n s l hb hs (fun i hi=>Pq hf procs hp l (by rw [aW] at hs;omega) i hi)
theorem Pq {f:az} (hf:gN f) (procs:List cB) (hp:wN procs):∀ (l:List Tree),cu l≤80→∀ i,(lI l).getD i false=true→Ok0 ((iW f procs l).getD i cO)
 | [],_,i,h=>by simp [lI] at h
 | t :: l,hs,0,h=>by
  rw [cu] at hs;exact Jc hf procs hp t (by simpa [lI] using h) (by omega)
 | t :: l,hs,i+1,h=>by
  rw [cu] at hs;have:=Pq hf procs hp l (by omega) i (by simpa [lI] using h)
  simpa [iW] using this
theorem Jc {f:az} (hf:gN f) (procs:List cB) (hp:wN procs):∀ (t:Tree),dw t=true→aW t≤80→Ok0 (aR f procs t)
 | .mk k n s l,hb,hs=>by
  have hlen:=(Io f procs hp.ok (.mk k n s l)).1;rw [aR] at hlen ⊢;rw [(dY _).1] at hlen;rw [dw] at hb;simp only [Bool.and_eq_true] at hb;exact uX _ (O7 hf procs hp l hb.2.2 (by rw [aW] at hs;omega)) (by omega)
theorem O7 {f:az} (hf:gN f) (procs:List cB) (hp:wN procs):∀ (l:List Tree),uV l=true→cu l≤80→∀ p∈o6 f procs l,Ok0 p
 | [],_,_,p,h=>by rw [o6] at h;cases h
 | t :: l,hb,hs,p,h=>by
  rw [cu] at hs;rw [uV,Bool.and_eq_true] at hb;rw [o6] at h;rcases List.mem_cons.1 h with rfl | h
  · exact YW hf procs hp t hb.1 (by omega)
  · exact O7 hf procs hp l hb.2 (by omega) p h
end
end
section
open Go.RowKit Go.Instr Go.Sort
theorem Wl (l:List eB) (x:eB) (h:x∈l):x∈qK l:=by
 have hp:=(pdq_sorts (ltOf ou) Fq l.toArray 0 l.length (Lib.bitLen l.length) true true (Nat.zero_le _) (by simp) (Or.inl rfl)).1;have hs:(pdq (ltOf ou) l.toArray 0 l.length (Lib.bitLen l.length) true true).size=l.length:=by simpa using hp.1
 have h2:=hp.2.2;rw [show (l.toArray.extract 0 l.length)=l.toArray from by simp,Array.extract_eq_self_of_le (by omega)] at h2;exact h2.symm.subset h
theorem Vk (l:List eB) (x:eB) (h:x∈qK l):x∈l:=by
 have hp:=(pdq_sorts (ltOf ou) Fq l.toArray 0 l.length (Lib.bitLen l.length) true true (Nat.zero_le _) (by simp) (Or.inl rfl)).1;have hs:(pdq (ltOf ou) l.toArray 0 l.length (Lib.bitLen l.length) true true).size=l.length:=by simpa using hp.1
 have h2:=hp.2.2;rw [show (l.toArray.extract 0 l.length)=l.toArray from by simp,Array.extract_eq_self_of_le (by omega)] at h2;exact h2.subset h
theorem Nh (first count:Int) (hf:0≤first∧first≤1) (hc:count≤500):∀ (l:List eB) (used:Int),0≤used→uh first count used l=true→(∀ x∈l,In64 x.1)→∀ x∈l,(first≤x.1∧x.1<first+count)∧1≤x.2∧x.2≤500
 | [],_,_,_,_,x,hx=>by cases hx
 | y :: l,used,hu,h,h64,x,hx=>by
  have hy:=h64 y (by simp);simp only [uh] at h;split at h
  · cases h
  · rename_i h1;have hw:wrap64 (y.1 - first)=y.1 - first:=x8 (by simp only [In64] at *;omega)
    rw [hw] at h;split at h
    · cases h
    · rename_i h2;simp only [not_or] at h2;obtain ⟨a1,a2,a3,a4⟩:=h2;have hw2:wrap64 (count - (y.1 - first))=count - (y.1 - first):=x8 (by simp only [In64] at *;omega);rw [hw2] at a4;have hw3:wrap64 (y.1 - first+y.2)=y.1 - first+y.2:=x8 (by simp only [In64] at *;omega)
      rw [hw3] at h;rcases List.mem_cons.1 hx with rfl | hx
      · omega
      · exact Nh first count hf hc l _ (by omega) h (fun z hz=>h64 z (by simp [hz])) x hx
theorem NY {l:List eB} {first count:Int} (hf:0≤first∧first≤1) (hc:count≤500) (h:oh l first count=true) (h64:∀ x∈l,In64 x.1):∀ x∈l,(first≤x.1∧x.1<first+count)∧1≤x.2∧x.2≤500:=fun x hx =>
 Nh first count hf hc _ 0 (by decide) h (fun y hy=>h64 y (Vk l y hy)) x (Wl l x hx)
theorem Pt:∀ (l:List dF) (p q:List eB × List eB),l.foldlM vz p=some q →
 ((∀ x∈p.1,x∈q.1)∧(∀ x∈p.2,x∈q.2))∧(∀ s∈l,(s.kind=1∧(s.at',1)∈q.1)∨(s.kind=2∧(s.at',s.len)∈q.1)∨(s.kind=3∧(s.at',1)∈q.2)) ∧
 (∀ x∈q.1,x∈p.1∨∃ s∈l,x.1=s.at')∧(∀ x∈q.2,x∈p.2∨∃ s∈l,x.1=s.at')
 | [],p,q,h=>by
  simp only [List.foldlM_nil,Option.pure_def,Option.some.injEq] at h;subst h;exact ⟨⟨fun _ h=>h,fun _ h=>h⟩,fun s hs=>(by cases hs),fun x h => .inl h,fun x h => .inl h⟩
 | s :: l,p,q,h=>by
  rw [List.foldlM_cons] at h;rcases hp:vz p s with _ | p'
  · rw [hp] at h;cases h
  · rw [hp] at h;obtain ⟨⟨i1,i2⟩,i3,i4,i5⟩:=Pt l p' q h;have hst:((∀ x∈p.1,x∈p'.1)∧(∀ x∈p.2,x∈p'.2))∧((s.kind=1∧(s.at',1)∈p'.1)∨(s.kind=2∧(s.at',s.len)∈p'.1)∨(s.kind=3∧(s.at',1)∈p'.2))∧(∀ x∈p'.1,x∈p.1∨x.1=s.at')∧(∀ x∈p'.2,x∈p.2∨x.1=s.at'):=by
     unfold vz at hp;split at hp
     · rename_i hk;simp only [Option.some.injEq] at hp;subst hp;refine ⟨⟨fun x hx=>by simp [hx],fun x hx=>hx⟩,.inl ⟨hk,by simp⟩,fun x hx => ?_,fun x hx => .inl hx⟩;simp only [List.mem_append,List.mem_singleton] at hx;rcases hx with hx | rfl
       · exact .inl hx
       · exact .inr rfl
     · split at hp
       · rename_i hk;simp only [Option.some.injEq] at hp;subst hp;refine ⟨⟨fun x hx=>by simp [hx],fun x hx=>hx⟩,.inr (.inl ⟨hk,by simp⟩),fun x hx => ?_,fun x hx => .inl hx⟩;simp only [List.mem_append,List.mem_singleton] at hx;rcases hx with hx | rfl
         · exact .inl hx
         · exact .inr rfl
       · split at hp
         · rename_i hk;simp only [Option.some.injEq] at hp;subst hp;refine ⟨⟨fun x hx=>hx,fun x hx=>by simp [hx]⟩,.inr (.inr ⟨hk,by simp⟩),fun x hx => .inl hx,fun x hx => ?_⟩;simp only [List.mem_append,List.mem_singleton] at hx;rcases hx with hx | rfl
           · exact .inl hx
           · exact .inr rfl
         · cases hp
    obtain ⟨⟨s1,s2⟩,s3,s4,s5⟩:=hst;refine ⟨⟨fun x hx=>i1 x (s1 x hx),fun x hx=>i2 x (s2 x hx)⟩,fun t ht => ?_,fun x hx => ?_,fun x hx => ?_⟩
    · rcases List.mem_cons.1 ht with rfl | ht
      · rcases s3 with ⟨a,b⟩ | ⟨a,b⟩ | ⟨a,b⟩
        · exact .inl ⟨a,i1 _ b⟩
        · exact .inr (.inl ⟨a,i1 _ b⟩)
        · exact .inr (.inr ⟨a,i2 _ b⟩)
      · exact i3 t ht
    · rcases i4 x hx with h | ⟨t,ht,e⟩
      · rcases s4 x h with h | h
        · exact .inl h
        · exact .inr ⟨s,by simp,h⟩
      · exact .inr ⟨t,by simp [ht],e⟩
    · rcases i5 x hx with h | ⟨t,ht,e⟩
      · rcases s5 x h with h | h
        · exact .inl h
        · exact .inr ⟨s,by simp,h⟩
      · exact .inr ⟨t,by simp [ht],e⟩
theorem YI {f:az} (h:vF f.slots f.cells f.stacks=true) (hc:f.cells≤500) (hs:f.stacks≤100) (h64:∀ s∈f.slots,In64 s.at'):∀ s∈f.slots,(0≤s.at'∧s.at'≤500)∧(s.kind=2→0≤s.len∧s.len≤500):=fun s hsm=>by
 unfold vF at h;rcases hq:o5 f.slots f.slots.length with _ | q
 · rw [hq] at h;cases h
 · rw [hq] at h;simp only [Bool.and_eq_true] at h;unfold o5 at hq;rw [List.take_length] at hq;obtain ⟨-,h2,h3,h4⟩:=Pt _ _ _ hq;have a1:=NY (by omega) hc h.1 (fun x hx=>by
    rcases h3 x hx with h | ⟨t,ht,e⟩
    · cases h
    · rw [e];exact h64 t ht)
   have a2:=NY (by omega) (by omega) h.2 (fun x hx=>by
    rcases h4 x hx with h | ⟨t,ht,e⟩
    · cases h
    · rw [e];exact h64 t ht)
   rcases h2 s hsm with ⟨hk,hm⟩ | ⟨hk,hm⟩ | ⟨hk,hm⟩
   · have:=a1 _ hm;exact ⟨by omega,fun e=>by omega⟩
   · have:=a1 _ hm;exact ⟨by omega,fun e=>by omega⟩
   · have:=a2 _ hm;exact ⟨by omega,fun e=>by omega⟩
theorem nU.fr {f:az} {procs:List aj} {t:Tree} (h:nU f procs t) (h64:∀ s∈f.slots,In64 s.at'):gN f∧zH f:=by
 have hb:=YI h.dj h.c1 h.s1 h64;have hat:∀ s k,0≤ak f s k∧ak f s k≤500:=fun s k=>by
  unfold ak;rcases hf:au f s k with _ | x
  · simp [noSlot]
  · exact (hb x (List.mem_of_find?_eq_some hf)).1
 refine ⟨⟨⟨h.c0,h.c1⟩,⟨h.s0,h.s1⟩,fun s k=>by have:=hat s k;omega,fun s => ?_⟩,⟨h.c0,by have:=h.c1;omega,h.s0,by have:=h.s1;omega,fun s k=>by have:=hat s k;omega⟩⟩;rcases hf:au f s 2 with _ | x
 · simp [noSlot]
 · have hk:x.kind=2:=by
    have:=List.find?_some hf;simp only [jF,Bool.and_eq_true,beq_iff_eq] at this;exact this.2
   have:=(hb x (List.mem_of_find?_eq_some hf)).2 hk;simp only [Option.getD_some];omega
end
end Go.Proofs.YtnobahchcongnaaGreatDoor
