import Derived.Test.YtnobahchcongnaaGreatDoorQ49
set_option linter.unusedSimpArgs false
set_option linter.unusedVariables false
set_option maxRecDepth 100000
set_option maxHeartbeats 25600000
namespace Go.Proofs.YtnobahchcongnaaGreatDoor
open Go.RowKit Go.Instr
theorem OA {κ:Type} [BEq κ] [LawfulBEq κ] (k:κ) (v:Value) (x:κ):∀ (l:List (κ × Value)),x∈(iN k v l).map (·.1)↔x=k∨x∈l.map (·.1)
 | []=>by simp [iN]
 | (a,y) :: l=>by
  have ih:=OA k v x l;simp only [iN];split
  · rename_i h;have:k=a:=by simpa using h
    subst this;simp
  · simp only [List.map_cons,List.mem_cons,ih];constructor
    · rintro (h | h | h)
      · exact .inr (.inl h)
      · exact .inl h
      · exact .inr (.inr h)
    · rintro (h | h | h)
      · exact .inr (.inl h)
      · exact .inl h
      · exact .inr (.inr h)
theorem NU {κ:Type} [BEq κ] [LawfulBEq κ] (k:κ):∀ (l:List (κ × Value)) (i:Nat),(fT k l i).isSome=true↔k∈l.map (·.1)
 | [],i=>by simp [fT]
 | (a,y) :: l,i=>by
  have ih:=NU k l (i+1);simp only [fT];split
  · rename_i h;have:k=a:=by simpa using h
    subst this;simp
  · rename_i h;have:k≠a:=by simpa using h
    simp [ih,this]
theorem X6 {κ:Type} [BEq κ] [LawfulBEq κ] (l:List (κ × Value)) (k:κ):(qQ l k).isSome=true↔k∈l.map (·.1):=by
 unfold qQ;rw [Option.isSome_map];exact NU k l 0
def yz:List (aC × (Nat→Prop))→Nat→Prop
 | [],_=>False
 | x :: l,i=>yh x.1.code.length x.2 (yz l) i
theorem Ph:gp (fun _=>False) cO :=
 ⟨fun x hx=>(by cases hx),fun i x hx=>(by simp [cO] at hx),fun i h=>h.elim,fun i x hx=>(by simp [cO] at hx),fun x hx=>(by cases hx),rfl⟩
theorem Fb:∀ (l:List (aC × (Nat→Prop))),(∀ x∈l,gp x.2 x.1)→aP (l.map (·.1))≤65536→gp (yz l) (aK (l.map (·.1)))
 | [],_,_=>Ph
 | x :: l,h,ht=>by
  have hx:=h x (by simp);have hl:aP ((x :: l).map (·.1))=x.1.code.length+aP (l.map (·.1)):=by simp [aP]
  rw [hl] at ht;have ih:=Fb l (fun y hy=>h y (by simp [hy])) (by omega);rw [List.map_cons,Ia,hx.none (by omega)];exact hx.join ih (by rw [(dY _).1];omega)
theorem uX (l:List aC) (h:∀ p∈l,gp (fun _=>False) p) (ht:aP l≤65536):gp (fun _=>False) (aK l):=by
 have hm:(l.map fun p=>(p,fun (_:Nat)=>False)).map (·.1)=l:=by rw [List.map_map];exact List.map_id l
 have:=Fb (l.map fun p=>(p,fun _=>False)) (fun x hx=>by obtain ⟨p,hp,rfl⟩:=List.mem_map.1 hx;exact h p hp) (by rw [hm];exact ht);rw [hm] at this;refine this.congr fun i=>⟨fun hi => ?_,fun h=>h.elim⟩;clear this ht h hm
 induction l generalizing i with
 | nil=>exact hi
 | cons p l ih =>
  simp only [List.map_cons,yz,yh,and_false,false_or] at hi;exact ih _ hi.2
theorem gp.pair {S:Nat→Prop} {p:aC} (h:gp S p) (i j:Nat) (hi:S i) (hj:S j) (hij:i≠j) (x y:Ins) (hx:p.code[i]? = some x) (hy:p.code[j]? = some y) (ho:qp x y) (hl:p.code.length≤65536) :
 gp (fun k=>S k∧k≠i∧k≠j) (fU p i j):=by
 have LD:=om hx;have hlj:=om hy;obtain ⟨x',hx',hmx,-,TY⟩:=h.ex i hi;rw [hx] at hx';obtain rfl:=Option.some.inj hx';obtain ⟨y',hy',LF,-,TZ⟩:=h.ex j hj;rw [hy] at hy';obtain rfl:=Option.some.inj hy';have hc:(fU p i j).code=(p.code.set i (x.dE j)).set j (y.dE i):=by simp only [fU,hx,hy]
 have hr:(fU p i j).refs=p.refs:=by simp only [fU,hx,hy]
 have hgi:(fU p i j).code[i]? = some (x.dE j):=by
  rw [hc,List.getElem?_set_ne (fun e=>hij e.symm),List.getElem?_set_self LD]
 have hgj:(fU p i j).code[j]? = some (y.dE i):=by
  rw [hc,List.getElem?_set_self (by rw [List.length_set];exact hlj)]
 have hg:∀ k,k≠i→k≠j→(fU p i j).code[k]? = p.code[k]? := fun k h1 h2=>by
  rw [hc,List.getElem?_set_ne (fun e=>h2 e.symm),List.getElem?_set_ne (fun e=>h1 e.symm)]
 have hmem:∀ z∈(fU p i j).code,z∈p.code∨z=x.dE j∨z=y.dE i:=fun z hz=>by
  rw [hc] at hz;rcases List.mem_or_eq_of_mem_set hz with hz | hz
  · rcases List.mem_or_eq_of_mem_set hz with hz | hz
    · exact .inl hz
    · exact .inr (.inl hz)
  · exact .inr (.inr hz)
 have hix:kH x.op=false:=by
  simp only [eG,ig,iQ,Bool.or_eq_true,beq_iff_eq] at hmx;simp only [kH,Bool.or_eq_false_iff,beq_eq_false_iff_ne];omega
 have hiy:kH y.op=false:=by
  simp only [eG,ig,iQ,Bool.or_eq_true,beq_iff_eq] at LF;simp only [kH,Bool.or_eq_false_iff,beq_eq_false_iff_ne];omega
 refine ⟨fun z hz => ?_,fun k z hz hS => ?_,fun k hS => ?_,fun k z hz hS hm => ?_,fun z hz hcz => ?_,?_⟩
 · rcases hmem z hz with h1 | rfl | rfl
   · exact h.op z h1
   · rw [qz];exact h.op x (List.mem_of_getElem? hx)
   · rw [qz];exact h.op y (List.mem_of_getElem? hy)
 · by_cases h1:k=i
   · subst h1;rw [hgi] at hz;obtain rfl:=Option.some.inj hz;exact TY _ (by omega) (by omega)
   · by_cases h2:k=j
     · subst h2;rw [hgj] at hz;obtain rfl:=Option.some.inj hz;exact TZ _ (by omega) (by omega)
     · rw [hg k h1 h2] at hz;exact h.val k z hz (fun hs=>hS ⟨hs,h1,h2⟩)
 · obtain ⟨z,hz,h3⟩:=h.ex k hS.1;exact ⟨z,by rw [hg k hS.2.1 hS.2.2];exact hz,h3⟩
 · by_cases h1:k=i
   · subst h1;rw [hgi] at hz;obtain rfl:=Option.some.inj hz;exact ⟨⟨j,_,fun e=>e.2.2 rfl,hgj,xV hmx _,xV LF _,by unfold qp at ho ⊢;rw [qz,qz];exact ho⟩,fun t t1 t2=>by rw [Ba];exact TY t t1 t2⟩
   · by_cases h2:k=j
     · subst h2;rw [hgj] at hz;obtain rfl:=Option.some.inj hz;exact ⟨⟨i,_,fun e=>e.2.1 rfl,hgi,xV LF _,xV hmx _,by have:=ho.symm;unfold qp at this ⊢;rw [qz,qz];exact this⟩,fun t t1 t2=>by rw [Ba];exact TZ t t1 t2⟩
     · rw [hg k h1 h2] at hz;obtain ⟨⟨m,u,u1,u2,u3,u4,u5⟩,u6⟩:=h.zO k z hz (fun hs=>hS ⟨hs,h1,h2⟩) hm;have Ku:m≠i:=fun e=>u1 (e ▸ hi);have hmj:m≠j:=fun e=>u1 (e ▸ hj);exact ⟨⟨m,u,fun e=>u1 e.1,by rw [hg m Ku hmj];exact u2,u3,u4,u5⟩,u6⟩
 · rcases hmem z hz with h1 | rfl | rfl
   · exact h.ca z h1 hcz
   · rw [qz,hix] at hcz;cases hcz
   · rw [qz,hiy] at hcz;cases hcz
 · rw [hr,h.refs,hc];have hset:∀ (l:List Ins) (o k:Nat) (u v:Ins),l[k]? = some u→kH v.op=kH u.op→dX (l.set k v) o=dX l o:=by
    intro l
    induction l with
    | nil=>intro o k u v hk;simp at hk
    | cons a l ih =>
     intro o k u v hk hv;cases k with
     | zero =>
      simp at hk;subst hk;simp only [List.set_cons_zero,dX,hv]
     | succ k =>
      simp only [List.set_cons_succ,dX,ih (o+1) k u v (by simpa using hk) hv]
   rw [hset _ _ j y _ (by rw [List.getElem?_set_ne hij];exact hy) (by rw [qz]),hset _ _ i x _ hx (by rw [qz])]
theorem Vi (refs:List bD) (i:Int):nY refs i=true↔∃ r∈refs,r.at'=i:=by
 unfold nY;rw [X6];have h:∀ (l:List bD) (m:List (Int × Value)),i∈(l.foldl (fun m r=>iN r.at' (.bool true) m) m).map (·.1)↔i∈m.map (·.1)∨∃ r∈l,r.at'=i:=by
  intro l
  induction l with
  | nil=>intro m;simp
  | cons r l ih =>
   intro m;rw [List.foldl_cons,ih,OA];simp only [List.mem_cons,exists_eq_or_imp];constructor
   · rintro ((h | h) | h)
     · exact .inr (.inl h.symm)
     · exact .inl h
     · exact .inr (.inr h)
   · rintro (h | h | h)
     · exact .inl (.inr h)
     · exact .inl (.inl h.symm)
     · exact .inr h
 unfold oP;rw [List.take_length,h];simp
theorem gp.check {p:aC} (h:gp (fun _=>False) p):kZ p.code p.refs=(-1,0):=by
 have key:∀ (f i next:Nat),p.code.length≤f+i→i≤p.code.length→next=(dX (p.code.take i) 0).length→qD p.code p.refs f i next=(-1,0):=by
  have hend:∀ next i:Nat,p.code.length≤i→next=(dX (p.code.take i) 0).length→xZ p.code p.refs next=(-1,0):=fun next i hi hn=>by
   rw [List.take_of_length_le hi,← h.refs,List.length_map] at hn;unfold xZ;rw [if_neg (by omega)]
  intro f
  induction f with
  | zero=>intro i next hf hi hn;exact hend next i (by omega) hn
  | succ f ih =>
   intro i next hf hi hn;rw [qD];rcases hx:p.code[i]? with _ | x
   · exact hend next i (by simpa using hx) hn
   · have hlt:=om hx;have hmem:=List.mem_of_getElem? hx;have hop:=h.op x hmem;have hv:=h.val i x hx (fun e=>e);simp only;rw [if_neg (by rw [hv];simp;omega)];rw [if_neg (by
      rintro ⟨hm,hp⟩;obtain ⟨⟨j,y,-,hj,ht,hty,ho⟩,-⟩:=h.zO i x hx (fun e=>e) hm;have hjl:=om hj;unfold vD at hp;rw [hx] at hp;simp only at hp;rw [if_neg (by omega)] at hp;rw [show x.target.toNat=j by omega,hj] at hp;simp only at hp;rw [if_neg (by
       rcases ho with ⟨a,b⟩ | ⟨a,b⟩
       · simp only [ig,iQ,Bool.or_eq_true,beq_iff_eq] at a b;simp only [ig,iQ,Bool.or_eq_true,Bool.and_eq_true,beq_iff_eq,Bool.not_eq_true',Bool.or_eq_false_iff,beq_eq_false_iff_ne];omega
       · simp only [ig,iQ,Bool.or_eq_true,beq_iff_eq] at a b;simp only [ig,iQ,Bool.or_eq_true,Bool.and_eq_true,beq_iff_eq,Bool.not_eq_true',Bool.or_eq_false_iff,beq_eq_false_iff_ne]
         omega)] at hp
      simp [hty] at hp)]
     have hcx:=Na p.code 0 i x hx;rw [Nat.zero_add] at hcx;have htk:p.code.take (i+1)=p.code.take i ++ [x]:=by
      rw [List.take_succ_eq_append_getElem hlt,(List.getElem?_eq_some_iff.1 hx).2]
     have htl:(p.code.take i).length=i:=by simp;omega
     have hci:dX (p.code.take (i+1)) 0=dX (p.code.take i) 0 ++ (if kH x.op then [(i:Int)] else []):=by
      rw [htk,DW,htl,Nat.zero_add];simp [dX]
     by_cases hc:kH x.op=true
     · rw [if_neg (by simp only [kH,Bool.or_eq_true,beq_iff_eq] at hc;omega)];have hall:dX p.code 0=dX (p.code.take i) 0 ++ ((i:Int) :: dX (p.code.drop (i+1)) (i+1)):=by
        conv=>lhs;rw [← List.take_append_drop i p.code,DW,htl,Nat.zero_add,List.drop_eq_getElem_cons hlt]
        rw [(List.getElem?_eq_some_iff.1 hx).2];simp only [dX,hc,if_true]
       have hget:p.refs[next]?.map bD.at'=some (i:Int):=by
        rw [← List.getElem?_map,h.refs,hall,hn,List.getElem?_append_right (Nat.le_refl _),Nat.sub_self];rfl
       have hlen:next<p.refs.length:=by
        rcases Nat.lt_or_ge next p.refs.length with h1 | h1
        · exact h1
        · rw [List.getElem?_eq_none h1] at hget;cases hget
       rw [if_neg (by
        rintro (h1 | h1 | h1)
        · exact h1 (h.ca x hmem hc)
        · omega
        · exact h1 hget)]
       exact ih (i+1) (next+1) (by omega) (by omega) (by rw [hci,if_pos hc,List.length_append,← hn];rfl)
     · rw [if_pos (by simp only [kH,Bool.or_eq_true,beq_iff_eq] at hc;omega)];have hnl:nY p.refs i=false:=by
        rcases hb:nY p.refs i with _ | _
        · rfl
        · obtain ⟨r,hr,he⟩:=(Vi _ _).1 hb;have:(i:Int)∈dX p.code 0:=by rw [← h.refs];exact List.mem_map.2 ⟨r,hr,he⟩
          exact absurd (hcx.1 this) hc
       rw [hnl];simp only [Bool.false_eq_true,if_false];exact ih (i+1) next (by omega) (by omega) (by rw [hci,if_neg hc,List.append_nil];exact hn)
 exact key p.code.length 0 0 (by omega) (by omega) rfl
structure dD (x:Ins):Prop where
 v:x.iJ=true
 o0:0≤x.op
 o1:x.op<32
 m:eG x.op=false
 c:kH x.op=false
structure Raw (x:Ins):Prop where
 o0:0≤x.op
 o1:x.op<32
 m:eG x.op=true
 t:In64 x.target
 v:∀ t,0≤t→t<65536→(x.dE t).iJ=true
theorem MG:∀ (l:List Ins) (o:Nat),(∀ x∈l,kH x.op=false)→dX l o=[]
 | [],o,_=>rfl
 | x :: l,o,h=>by
  simp only [dX,h x (by simp),Bool.false_eq_true,if_false];exact MG l (o+1) (fun y hy=>h y (by simp [hy]))
theorem BJ (S:Nat→Prop) (l:List Ins) (h:∀ i x,l[i]? = some x→(S i∧Raw x)∨(¬ S i∧dD x)) (hS:∀ i,S i→i<l.length):gp S (ah l):=by
 have hm:∀ x∈l,∃ i,l[i]? = some x:=fun x hx=>List.mem_iff_getElem?.1 hx;refine ⟨fun x hx => ?_,fun i x hx hs => ?_,fun i hs => ?_,fun i x hx hs hm => ?_,fun x hx hc => ?_,?_⟩
 · obtain ⟨i,hi⟩:=hm x hx;rcases h i x hi with ⟨-,r⟩ | ⟨-,s⟩
   · exact ⟨r.o0,r.o1⟩
   · exact ⟨s.o0,s.o1⟩
 · rcases h i x hx with ⟨e,-⟩ | ⟨-,s⟩
   · exact absurd e hs
   · exact s.v
 · have hi:=hS i hs;rcases h i l[i] (List.getElem?_eq_getElem hi) with ⟨-,r⟩ | ⟨e,-⟩
   · exact ⟨l[i],List.getElem?_eq_getElem hi,r.m,r.t,r.v⟩
   · exact absurd hs e
 · rcases h i x hx with ⟨e,-⟩ | ⟨-,s⟩
   · exact absurd e hs
   · rw [s.m] at hm;cases hm
 · obtain ⟨i,hi⟩:=hm x hx;exfalso;rcases h i x hi with ⟨-,r⟩ | ⟨-,s⟩
   · have:=r.m;simp only [eG,ig,iQ,Bool.or_eq_true,beq_iff_eq] at this;simp only [kH,Bool.or_eq_true,beq_iff_eq] at hc;omega
   · rw [s.c] at hc;cases hc
 · show []=_
   rw [show (ah l).code=l from rfl,MG];intro x hx;obtain ⟨i,hi⟩:=hm x hx;rcases h i x hi with ⟨-,r⟩ | ⟨-,s⟩
   · have:=r.m;simp only [eG,ig,iQ,Bool.or_eq_true,beq_iff_eq] at this;simp only [kH,Bool.or_eq_false_iff,beq_eq_false_iff_ne];omega
   · exact s.c
theorem yj (l:List Ins) (h:∀ x∈l,dD x):gp (fun _=>False) (ah l) :=
 BJ _ l (fun i x hx => .inr ⟨fun e=>e,h x (List.mem_of_getElem? hx)⟩) (fun i h=>h.elim)
theorem Nb (l:List Ins) (a:Int) (h:∀ x∈l,dD x):bU l a=l:=by
 conv=>rhs;rw [← List.map_id l]
 unfold bU;refine List.map_congr_left fun x hx => ?_;unfold Ins.shift;rw [if_neg (by rw [(h x hx).m];decide)];rfl
structure gN (f:az):Prop where
 c:0≤f.cells∧f.cells≤500
 s:0≤f.stacks∧f.stacks≤100
 a:∀ s k,0≤ak f s k∧ak f s k≤1000
 l:∀ s,0≤((au f s 2).getD noSlot).len∧((au f s 2).getD noSlot).len≤1000
theorem uj {o a b c d:Int} (hv:Ins.iJ ⟨o,a,b,c,d⟩=true) (h:0≤o∧o<32∧eG o=false∧kH o=false):dD ⟨o,a,b,c,d⟩:=⟨hv,h.1,h.2.1,h.2.2.1,h.2.2.2⟩
theorem wV (r n:Int) (hr:0≤r∧r<16) (h:0≤n∧n≤16384):dD ⟨10,r,n,0,0⟩:=uj (by simp [Ins.iJ,lT,unused,nZ,iM,mF];omega) (by decide)
theorem Jb (r i a n:Int) (hr:0≤r∧r<16) (hi:0≤i∧i<16) (hne:r≠i) (h:0≤a∧a≤16384) (hn:0≤n∧n≤16384):dD ⟨11,r,i,a,n⟩:=uj (by simp [Ins.iJ,lT,unused,nZ,iM,mF];omega) (by decide)
theorem iI (op r n:Int) (ho:op=12∨op=13∨op=14∨op=15) (hr:0≤r∧r<16) (h:0≤n∧n≤16384):dD ⟨op,r,n,0,0⟩:=by
 rcases ho with rfl | rfl | rfl | rfl <;> exact uj (by simp [Ins.iJ,lT,unused,nZ,iM,mF];omega) (by decide)
theorem Ae (op a b:Int) (ho:op=1∨op=2∨op=3) (ha:0≤a∧a<16) (hb:0≤b∧b<16) (hne:a≠b):dD ⟨op,a,b,0,0⟩:=by
 rcases ho with rfl | rfl | rfl <;> exact uj (by simp [Ins.iJ,lT,unused,nZ,iM,mF];omega) (by decide)
theorem EJ (k:Int) (a b c:Int) (ha:0≤a∧a<16) (hb:0≤b∧b<16) (hc:0≤c∧c<16) (h1:a≠b) (h2:a≠c) (hk:8≤k∧k≤23):dD ⟨9,a,b,c,k⟩:=uj (by simp [Ins.iJ,lT,unused,nZ,iM,mF,Fv];omega) (by decide)
theorem OB (r n:Int) (hr:0≤r∧r<16):dD ⟨6,r,n,0,0⟩:=uj (by simp [Ins.iJ,lT,unused,nZ,iM,mF];omega) (by decide)
theorem OC (r n:Int) (hr:0≤r∧r<16) (hn:1≤n∧n≤23):dD ⟨21,r,n,0,0⟩:=uj (by simp [Ins.iJ,lT,unused,nZ,iM,mF];omega) (by decide)
theorem I1 (op a b:Int) (ho:op=16∨op=28∨op=29) (ha:0≤a∧a≤16384) (hb:0≤b∧b≤16384):dD ⟨op,a,b,0,0⟩:=by
 rcases ho with rfl | rfl | rfl <;> exact uj (by simp [Ins.iJ,lT,unused,nZ,iM,mF];omega) (by decide)
theorem Bt (op a:Int) (ho:op=8∨op=17∨op=18∨op=19∨op=20) (ha:0≤a∧a<16):dD ⟨op,a,0,0,0⟩:=by
 rcases ho with rfl | rfl | rfl | rfl | rfl <;> exact uj (by simp [Ins.iJ,lT,unused,nZ,iM,mF];omega) (by decide)
theorem X7:dD ⟨7,4,5,0,0⟩:=⟨by decide,by decide,by decide,by decide,by decide⟩
theorem YF {x:Ins} (h:dD x):dD x.inv:=by
 obtain ⟨o,a,b,c,d⟩:=x;obtain ⟨hv,h0,h1,hm,hc⟩:=h;simp only at h0 h1 hm hc
 show dD ⟨Ag o,a,b,c,d⟩
 have hcs:o=0∨o=1∨o=2∨o=3∨o=4∨o=5∨o=6∨o=7∨o=8∨o=9∨o=10∨o=11∨o=12∨o=13∨o=14∨o=15∨o=16∨o=17∨o=18∨o=19∨o=20∨o=21∨o=28∨o=29:=by
  simp only [eG,ig,iQ,Bool.or_eq_false_iff,beq_eq_false_iff_ne] at hm;simp only [kH,Bool.or_eq_false_iff,beq_eq_false_iff_ne] at hc;omega
 rcases hcs with rfl | rfl | rfl | rfl | rfl | rfl | rfl | rfl | rfl | rfl | rfl | rfl | rfl | rfl | rfl | rfl | rfl | rfl | rfl | rfl | rfl | rfl | rfl | rfl <;> exact uj hv (by decide)
theorem Nc (l:List Ins) (h:∀ x∈l,dD x):∀ x∈gJ l,dD x:=fun x hx=>by
 unfold gJ at hx;rw [List.mem_reverse] at hx;obtain ⟨y,hy,rfl⟩:=List.mem_map.1 hx;exact YF (h y hy)
mutual
theorem NV (f:az) (hf:gN f):∀ (t:Tree) (p:Int),aI t=true→0≤p→p+aW t≤2000→∀ x∈gX f t p,dD x
 | .mk k n s l,p,he,h0,h1=>by
  have ih:=Nf f hf l p;have a1:=hf.a s 1;have a2:=hf.a s 2;have a3:=hf.a s 3;have l2:=hf.l s;have hc:=hf.c;rw [aW] at h1;unfold ak at a1 a2 a3;rw [aI] at he;rw [gX];intro x hx;by_cases k1:k=1
  · rw [if_pos k1] at hx;simp only [List.mem_cons,List.not_mem_nil,or_false] at hx;rcases hx with rfl | rfl
    · exact OB _ _ (by decide)
    · exact iI _ _ _ (by decide) (by decide) (by decide)
  rw [if_neg k1] at he hx;by_cases k2:k=2
  · rw [if_pos k2] at hx;simp only [List.mem_cons,List.not_mem_nil,or_false] at hx;rcases hx with rfl | rfl | rfl | rfl
    · exact wV _ _ (by decide) (by omega)
    · exact Ae _ _ _ (by decide) (by decide) (by decide) (by decide)
    · exact wV _ _ (by decide) (by omega)
    · exact iI _ _ _ (by decide) (by decide) (by decide)
  rw [if_neg k2] at hx;by_cases k3:k=3
  · have ha:iV l=true:=by
     rw [if_neg (by omega),if_pos k3] at he;simp only [Bool.and_eq_true] at he;exact he.2.2
    rw [if_pos k3] at hx;rcases List.mem_append.1 hx with hx | hx
    · exact ih ha h0 (by omega) 0 x hx
    · simp only [List.mem_cons,List.not_mem_nil,or_false] at hx;rcases hx with rfl | rfl | rfl | rfl | rfl | rfl
      · exact iI _ _ _ (by decide) (by decide) (by decide)
      · exact Jb _ _ _ _ (by decide) (by decide) (by decide) (by omega) (by omega)
      · exact Ae _ _ _ (by decide) (by decide) (by decide) (by decide)
      · exact Jb _ _ _ _ (by decide) (by decide) (by decide) (by omega) (by omega)
      · exact iI _ _ _ (by decide) (by decide) (by decide)
      · exact iI _ _ _ (by decide) (by decide) (by decide)
  rw [if_neg k3] at hx;by_cases k4:k=4∨k=5
  · rw [if_pos k4] at hx;simp only [List.mem_cons,List.not_mem_nil,or_false] at hx;rcases hx with rfl | rfl
    · exact iI _ _ _ (by split <;> simp) (by decide) (by omega)
    · exact iI _ _ _ (by decide) (by decide) (by decide)
  rw [if_neg (by omega),if_neg k3] at he;rw [if_neg k4] at hx;by_cases k6:k=6
  · have ha:iV l=true:=by
     rw [if_pos (.inl k6)] at he;simp only [Bool.and_eq_true] at he;exact he.2.2
    rw [if_pos k6] at hx;simp only [List.mem_append,List.mem_cons,List.not_mem_nil,or_false] at hx;rcases hx with ((hx | rfl) | rfl | rfl) | rfl | rfl
    · exact ih ha h0 (by omega) 0 x hx
    · exact iI _ _ _ (by decide) (by decide) (by decide)
    · exact Ae _ _ _ (by decide) (by decide) (by decide) (by decide)
    · exact Bt _ _ (by decide) (by decide)
    · exact iI _ _ _ (by decide) (by decide) (by decide)
    · exact iI _ _ _ (by decide) (by decide) (by decide)
  rw [if_neg k6] at hx;by_cases k7:k=7
  · have ha:iV l=true:=by
     rw [if_pos (.inr k7)] at he;simp only [Bool.and_eq_true] at he;exact he.2.2
    rw [if_pos k7] at hx;simp only [List.mem_append,List.mem_cons,List.not_mem_nil,or_false] at hx;rcases hx with ((hx | rfl) | rfl) | rfl | rfl
    · exact ih ha h0 (by omega) 0 x hx
    · exact iI _ _ _ (by decide) (by decide) (by decide)
    · exact EJ _ _ _ _ (by decide) (by decide) (by decide) (by decide) (by decide) (by decide)
    · exact iI _ _ _ (by decide) (by decide) (by decide)
    · exact iI _ _ _ (by decide) (by decide) (by decide)
  rw [if_neg (by omega)] at he;rw [if_neg k7] at hx;by_cases k8:8≤k∧k≤23
  · have ha:iV l=true∧l.length=2:=by
     rw [if_pos k8] at he;simp only [Bool.and_eq_true,beq_iff_eq] at he;exact ⟨he.2.2,he.2.1⟩
    have hln:=Bd l;simp only [List.mem_append,List.mem_cons,List.not_mem_nil,or_false] at hx;rcases hx with (((hx | rfl | rfl) | hx) | rfl | rfl | rfl | rfl | rfl | rfl)
    · exact ih ha.1 h0 (by omega) 0 x hx
    · exact iI _ _ _ (by decide) (by decide) (by decide)
    · exact wV _ _ (by decide) (by omega)
    · exact ih ha.1 h0 (by omega) 1 x hx
    · exact iI _ _ _ (by decide) (by decide) (by decide)
    · exact wV _ _ (by decide) (by omega)
    · exact EJ _ _ _ _ (by decide) (by decide) (by decide) (by decide) (by decide) k8
    · exact iI _ _ _ (by decide) (by decide) (by decide)
    · exact iI _ _ _ (by decide) (by decide) (by decide)
    · exact iI _ _ _ (by decide) (by decide) (by decide)
  · rw [if_neg k8] at he;cases he
theorem Nf (f:az) (hf:gN f):∀ (l:List Tree) (p:Int),iV l=true→0≤p→p+cu l≤2000→∀ (i:Nat),∀ x∈(iX f l p).getD i [],dD x
 | [],p,_,_,_,i=>by simp [iX]
 | t :: l,p,ha,h0,h1,0=>by
  rw [cu] at h1;rw [iV,Bool.and_eq_true] at ha;have:=NV f hf t p ha.1 h0 (by omega)
  simpa [iX] using this
 | t :: l,p,ha,h0,h1,i+1=>by
  rw [cu] at h1;rw [iV,Bool.and_eq_true] at ha;have hp:=size_pos t;have:=Nf f hf l (p+1) ha.2 (by omega) (by omega) i
  simpa [iX] using this
end
abbrev Ok0 (p:aC):Prop:=gp (fun _=>False) p
theorem EK {f:az} (hf:gN f) {e:Tree} (he:aI e=true) (hs:aW e≤80):∀ x∈dC f e,dD x:=NV f hf e 0 he (by decide) (by omega)
theorem Wi {f:az} (hf:gN f) {e:Tree} (he:aI e=true) (hs:aW e≤80) (use:aC) (hr:use.refs=[]) (h0:eZ cO use=use) :
 aH f e use=aK [ah (dC f e ++ [⟨13,4,0,0,0⟩]),use,ah ([⟨12,4,0,0,0⟩] ++ gJ (dC f e))]:=by
 have h1:∀ x∈dC f e ++ [(⟨13,4,0,0,0⟩:Ins)],dD x:=fun x hx=>by
  rcases List.mem_append.1 hx with h | h
  · exact EK hf he hs x h
  · rw [List.mem_singleton.1 h];exact iI _ _ _ (by decide) (by decide) (by decide)
 have h2:∀ x∈[(⟨12,4,0,0,0⟩:Ins)] ++ gJ (dC f e),dD x:=fun x hx=>by
  rcases List.mem_append.1 hx with h | h
  · rw [List.mem_singleton.1 h];exact iI _ _ _ (by decide) (by decide) (by decide)
  · exact Nc _ (EK hf he hs) x h
 have h2':∀ x∈(⟨12,4,0,0,0⟩:Ins) :: gJ (dC f e),dD x:=h2;obtain ⟨uc,ur⟩:=use;simp only at hr;subst hr;have e1:aK [ah (dC f e ++ [⟨13,4,0,0,0⟩]),⟨uc,[]⟩,ah ([⟨12,4,0,0,0⟩] ++ gJ (dC f e))]=eZ (eZ (eZ cO (ah (dC f e ++ [⟨13,4,0,0,0⟩]))) ⟨uc,[]⟩) (ah ([⟨12,4,0,0,0⟩] ++ gJ (dC f e))):=rfl;rw [e1];unfold aH;simp only [eZ,ah,cO,List.nil_append,List.map_nil,List.append_nil,List.length_nil,Nb _ _ h1,Nb _ _ h2',List.length_append,List.length_cons,List.append_assoc,List.cons_append]
theorem vB {f:az} (hf:gN f) {e:Tree} (he:aI e=true) (hs:aW e≤80) (use:aC) (hr:use.refs=[]) (hu:Ok0 use) (hl:use.code.length≤20000):Ok0 (aH f e use):=by
 have hc:=oU f e;rw [Wi hf he hs use hr (hu.none (by omega))];refine uX _ (fun p hp => ?_) ?_
 · simp only [List.mem_cons,List.not_mem_nil,or_false] at hp;rcases hp with rfl | rfl | rfl
   · refine yj _ (fun x hx => ?_);rcases List.mem_append.1 hx with h | h
     · exact EK hf he hs x h
     · rw [List.mem_singleton.1 h];exact iI _ _ _ (by decide) (by decide) (by decide)
   · exact hu
   · refine yj _ (fun x hx => ?_);rcases List.mem_append.1 hx with h | h
     · rw [List.mem_singleton.1 h];exact iI _ _ _ (by decide) (by decide) (by decide)
     · exact Nc _ (EK hf he hs) x h
 · simp only [aP,ah,List.map_cons,List.map_nil,List.sum_cons,List.sum_nil,List.length_append,List.length_cons,List.length_nil,D7];omega
theorem zX {f:az} (hf:gN f) (s:ByteArray) (k r:Int) (hr:0≤r∧r<16):dD ⟨10,r,ak f s k,0,0⟩:=wV _ _ hr (by have:=hf.a s k;omega)
theorem EL {f:az} (hf:gN f) (p:Tree) (r i:Int) (hr:0≤r∧r<16) (hi:0≤i∧i<16) (hne:r≠i):dD (eF f p r i):=by
 have h1:=hf.a p.name 2;have h2:=hf.l p.name;unfold ak at h1;exact Jb _ _ _ _ hr hi hne (by omega) (by omega)
theorem yA {a b c:Ins} (ha:dD a) (hb:dD b) (hc:dD c):Ok0 (ah [a,b,c]):=yj _ fun x hx=>by
 simp only [List.mem_cons,List.not_mem_nil,or_false] at hx;rcases hx with rfl | rfl | rfl <;> assumption
theorem Ev {p:Tree} (h:dB p=true) (h2:¬ p.kind=2):aI (p.kid 0)=true:=by
 obtain ⟨k,n,s,l⟩:=p;simp only [dB,Bool.and_eq_true,Bool.or_eq_true,beq_iff_eq,Tree.kind] at h h2;rcases h.1 with rfl | rfl
 · exact absurd rfl h2
 · have h3:=h.2;simp only [aI,show ¬ ((3:Int)=1) by decide,show ¬ ((3:Int)=2∨(3:Int)=4∨(3:Int)=5) by decide,if_false,if_true,Bool.and_eq_true,beq_iff_eq] at h3;obtain ⟨-,hl,ha⟩:=h3
   match l,hl with
   | [t],_ =>
    simp only [iV,Bool.and_true] at ha;exact ha
theorem O5 {f:az} (hf:gN f) {p:Tree} (hp:dB p=true) (hs:aW p≤80) (list:Ins→aC) (h:∀ i,dD i→Ok0 (list i)∧(list i).refs=[]∧(list i).code.length≤20000):Ok0 (yg f p list):=by
 unfold yg;split
 · exact (h _ (zX hf _ _ _ (by decide))).1
 · rename_i h2;have:=h _ (EL hf p 5 4 (by decide) (by decide) (by decide));exact vB hf (Ev hp h2) (Nat.le_trans (vw p 0) hs) _ this.2.1 this.1 this.2.2
theorem YT {f:az} (hf:gN f) {p:Tree} (hp:dB p=true) (hs:aW p≤80) (i:Ins) (hi:dD i):Ok0 (moveC f p i) :=
 O5 hf hp hs _ fun c hc=>⟨yA hc hi hc,rfl,by simp [ah]⟩
theorem EW:Ok0 kT:=yj _ fun x hx=>by rw [List.mem_singleton.1 hx];exact X7
theorem MH (a b c:aC) (ha:a.refs=[]) (hb:b.refs=[]) (hc:c.refs=[]):(aK [a,b,c]).refs=[]:=by
 apply List.eq_nil_of_length_eq_zero;rw [(dY _).2];simp [bS,ha,hb,hc]
theorem I4 {f:az} (hf:gN f) {p e:Tree} (hp:dB p=true) (he:aI e=true) (hs:aW p≤80) (hse:aW e≤80) (op:Int) (ho:op=1∨op=2∨op=3):Ok0 (lS f p e op):=by
 have hce:=oU f e;unfold lS;split
 · exact vB hf he hse _ rfl (yA (zX hf _ _ _ (by decide)) (Ae _ _ _ ho (by decide) (by decide) (by decide)) (zX hf _ _ _ (by decide))) (by simp [ah])
 · rename_i h2;have h1:=EL hf p 6 5 (by decide) (by decide) (by decide);have hin:=vB hf he hse _ rfl (yA h1 (Ae op 6 4 ho (by decide) (by decide) (by decide)) h1) (by simp [ah]);have hil:=kK f e (ah [eF f p 6 5,⟨op,6,4,0,0⟩,eF f p 6 5]);simp only [ah,List.length_cons,List.length_nil] at hil;refine vB hf (Ev hp h2) (Nat.le_trans (vw p 0) hs) _ ?_ (uX _ (fun q hq => ?_) ?_) ?_
   · exact MH _ _ _ rfl (List.eq_nil_of_length_eq_zero hil.2) rfl
   · simp only [List.mem_cons,List.not_mem_nil,or_false] at hq;rcases hq with rfl | rfl | rfl
     · exact EW
     · exact hin
     · exact EW
   · simp only [aP,kT,ah,List.map_cons,List.map_nil,List.sum_cons,List.sum_nil,List.length_cons,List.length_nil,hil.1];omega
   · rw [(dY _).1];simp only [aP,kT,ah,List.map_cons,List.map_nil,List.sum_cons,List.sum_nil,List.length_cons,List.length_nil,hil.1];omega
theorem Pj {o a b c d:Int} (h:0≤o∧o<32∧eG o=true) (ht:In64 (Ins.target ⟨o,a,b,c,d⟩)) (hv:∀ t,0≤t→t<65536→(Ins.dE ⟨o,a,b,c,d⟩ t).iJ=true):Raw ⟨o,a,b,c,d⟩:=⟨h.1,h.2.1,h.2.2,ht,hv⟩
theorem Fs (o:Int) (ho:o=22∨o=25):Raw ⟨o,0,0,0,0⟩:=by
 rcases ho with rfl | rfl <;> exact Pj (by decide) (by simp [Ins.target,q8,uA,In64]) (fun t h1 h2=>by simp [Ins.dE,q8,Ins.iJ,lT,unused,nZ,Ai];omega)
theorem Ah (o r:Int) (ho:o=23∨o=24∨o=26∨o=27) (hr:0≤r∧r<16):Raw ⟨o,r,0,0,0⟩:=by
 rcases ho with rfl | rfl | rfl | rfl <;> exact Pj (by decide) (by simp [Ins.target,q8,uA,In64]) (fun t h1 h2=>by simp [Ins.dE,q8,uA,Ins.iJ,lT,unused,nZ,Ai,iM];omega)
theorem Wj {f:az} (hf:gN f) (p q:Tree):Ok0 (eD f p q):=by
 have i1:=EL hf p 6 5 (by decide) (by decide) (by decide);have i2:=EL hf q 6 4 (by decide) (by decide) (by decide);unfold eD;split
 · exact yA i1 i2 i1
 · have heq:dD ⟨9,7,5,4,16⟩:=EJ _ _ _ _ (by decide) (by decide) (by decide) (by decide) (by decide) (by decide);have h0:gp (fun i=>i=3∨i=7) (ah [eF f p 6 5,eF f p 6 5,⟨9,7,5,4,16⟩,⟨24,7,0,0,0⟩,eF f p 6 5,eF f q 6 4,eF f p 6 5,⟨27,7,0,0,0⟩,⟨9,7,5,4,16⟩,eF f p 6 5,eF f p 6 5]):=by
    refine BJ _ _ (fun i x hx => ?_) (fun i hi=>by simp;omega);have hi:=om hx;simp only [List.length_cons,List.length_nil] at hi;have hcs:i=0∨i=1∨i=2∨i=3∨i=4∨i=5∨i=6∨i=7∨i=8∨i=9∨i=10:=by omega
    rcases hcs with rfl | rfl | rfl | rfl | rfl | rfl | rfl | rfl | rfl | rfl | rfl
    all_goals
     simp only [List.getElem?_cons_zero,List.getElem?_cons_succ,Option.some.injEq] at hx;subst hx
    · exact .inr ⟨by decide,i1⟩
    · exact .inr ⟨by decide,i1⟩
    · exact .inr ⟨by decide,heq⟩
    · exact .inl ⟨by decide,Ah _ _ (by decide) (by decide)⟩
    · exact .inr ⟨by decide,i1⟩
    · exact .inr ⟨by decide,i2⟩
    · exact .inr ⟨by decide,i1⟩
    · exact .inl ⟨by decide,Ah _ _ (by decide) (by decide)⟩
    · exact .inr ⟨by decide,heq⟩
    · exact .inr ⟨by decide,i1⟩
    · exact .inr ⟨by decide,i1⟩
   exact (h0.pair 3 7 (.inl rfl) (.inr rfl) (by decide) _ _ rfl rfl (.inl ⟨by decide,by decide⟩) (by simp [ah])).congr fun i=>⟨fun h=>by obtain ⟨h,h1,h2⟩:=h;omega,fun h=>h.elim⟩
theorem O6 {f:az} (hf:gN f) {p q:Tree} (hq:dB q=true) (hs:aW q≤80):Ok0 (vo f p q):=by
 unfold vo;split
 · exact Ph
 · exact O5 hf hq hs _ fun c hc=>⟨yA (zX hf _ _ _ (by decide)) hc (zX hf _ _ _ (by decide)),rfl,by simp [ah]⟩
theorem YU {f:az} (hf:gN f) {p q:Tree} (hp:dB p=true) (hq:dB q=true) (hsp:aW p≤80) (T9:aW q≤80):Ok0 (jO f p q):=by
 unfold jO;split
 · rename_i h3;have hce:=oU f (q.kid 0);have hkl:=vw q 0;have hxl:=Eo f p q;have hin:=vB hf (Ev hq (by omega)) (Nat.le_trans (vw q 0) T9) _ hxl.2 (Wj hf p q) (by omega);have hil:=kK f (q.kid 0) (eD f p q);refine vB hf (Ev hp (by omega)) (Nat.le_trans (vw p 0) hsp) _ ?_ (uX _ (fun r hr => ?_) ?_) ?_
   · exact MH _ _ _ rfl (List.eq_nil_of_length_eq_zero hil.2) rfl
   · simp only [List.mem_cons,List.not_mem_nil,or_false] at hr;rcases hr with rfl | rfl | rfl
     · exact EW
     · exact hin
     · exact EW
   · simp only [aP,kT,ah,List.map_cons,List.map_nil,List.sum_cons,List.sum_nil,List.length_cons,List.length_nil,hil.1];omega
   · rw [(dY _).1];simp only [aP,kT,ah,List.map_cons,List.map_nil,List.sum_cons,List.sum_nil,List.length_cons,List.length_nil,hil.1];omega
 · split
   · exact O6 hf hp hsp
   · exact O6 hf hq T9
theorem Fe {f:az} (hf:gN f) {e:Tree} (he:aI e=true) (hs:aW e≤80):Ok0 (ed f e) :=
 vB hf he hs _ rfl (yj _ fun x hx=>by rw [List.mem_singleton.1 hx];exact EJ _ _ _ _ (by decide) (by decide) (by decide) (by decide) (by decide) (by decide)) (by simp [ah])
end Go.Proofs.YtnobahchcongnaaGreatDoor
