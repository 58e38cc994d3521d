import Derived.Test.YtnobahchcongnaaGreatDoorR31
set_option linter.unusedSimpArgs false
set_option linter.unusedVariables false
set_option maxRecDepth 100000
set_option maxHeartbeats 25600000
namespace Go.Proofs.YtnobahchcongnaaGreatDoor
open Go.RowKit Go.Instr
structure bT (x:Ins):Prop where
 v:x.gT=true
 o0:0<=x.op
 o1:x.op<32
 m:bH x.op=false
 c:iw x.op=false
structure Raw (x:Ins):Prop where
 o0:0<=x.op
 o1:x.op<32
 m:bH x.op=true
 t:In64 x.target
 v:∀ t,0<=t->t<65536->(x.bN t).gT=true
theorem PO:∀ (l:List Ins) (o:Nat),(∀ x∈l,iw x.op=false)->dD l o=[]
 | [],o,_=>rfl
 |x :: l,o,h=>by
  simp only[dD,h x (by simp),Bool.false_eq_true,if_false];exact PO l (o+1) (λy hy=>h y (by simp[hy]))
theorem Eb (S:Nat->Prop) (l:List Ins) (h:∀ i x,l[i]? = some x->(S i/\Raw x)\/(¬ S i/\bT x)) (hS:∀ i,S i->i<l.length):gY S (ah l):=by
 have hm:∀ x∈l,∃ i,l[i]? = some x:=λx hx=>List.mem_iff_getElem?.1 hx;refine⟨λx hx => ?_,λi x hx hs => ?_,λi hs => ?_,λi x hx hs hm => ?_,λx hx hc => ?_,?_⟩
 · obtain⟨i,hi⟩:=hm x hx;rcases h i x hi with⟨-,r⟩|⟨-,s⟩
   · exact⟨r.o0,r.o1⟩
   · exact⟨s.o0,s.o1⟩
 · rcases h i x hx with⟨e,-⟩|⟨-,s⟩
   · exact absurd e hs
   · exact s.v
 · have hi:=hS i hs;rcases h i l[i] (List.getElem?_eq_getElem hi)with⟨-,r⟩|⟨e,-⟩
   · exact⟨l[i],List.getElem?_eq_getElem hi,r.m,r.t,r.v⟩
   · exact absurd hs e
 · rcases h i x hx with⟨e,-⟩|⟨-,s⟩
   · exact absurd e hs
   · rw[s.m]at hm;cases hm
 · obtain⟨i,hi⟩:=hm x hx;exfalso;rcases h i x hi with⟨-,r⟩|⟨-,s⟩
   · have:=r.m;simp only[bH,fU,gz,Bool.or_eq_true,beq_iff_eq]at this;simp only[iw,Bool.or_eq_true,beq_iff_eq]at hc;omega
   · rw[s.c]at hc;cases hc
 · show[]=_
   rw[show(ah l).code=l from rfl,PO];intro x hx;obtain⟨i,hi⟩:=hm x hx;rcases h i x hi with⟨-,r⟩|⟨-,s⟩
   · have:=r.m;simp only[bH,fU,gz,Bool.or_eq_true,beq_iff_eq]at this;simp only[iw,Bool.or_eq_false_iff,beq_eq_false_iff_ne];omega
   · exact s.c
theorem wU (l:List Ins) (h:∀ x∈l,bT x):gY (λ_=>False) (ah l) :=
 Eb _ l (λi x hx => .inr ⟨λe=>e,h x (List.mem_of_getElem? hx)⟩) (λi h=>h.elim)
theorem Qa (l:List Ins) (a:Int) (h:∀ x∈l,bT x):bR l a=l:=by
 conv=>rhs;rw[← List.map_id l]
 unfold bR;refine List.map_congr_left λx hx => ?_;unfold Ins.shift;rw[if_neg (by rw[(h x hx).m];decide)];rfl
structure eP (f:ax):Prop where
 c:0<=f.cells/\f.cells<=500
 s:0<=f.stacks/\f.stacks<=100
 a:∀ s k,0<=aj f s k/\aj f s k<=1000
 l:∀ s,0<=((au f s 2).getD noSlot).len/\((au f s 2).getD noSlot).len<=1000
theorem vH {o a b c d:Int} (hv:Ins.gT ⟨o,a,b,c,d⟩=true) (h:0<=o/\o<32/\bH o=false/\iw o=false):bT ⟨o,a,b,c,d⟩:=⟨hv,h.1,h.2.1,h.2.2.1,h.2.2.2⟩
theorem yL (r n:Int) (hr:0<=r/\r<16) (h:0<=n/\n<=16384):bT ⟨10,r,n,0,0⟩:=vH (by simp[Ins.gT,mP,unused,o7,jk,nC];omega) (by decide)
theorem Lp (r i a n:Int) (hr:0<=r/\r<16) (hi:0<=i/\i<16) (hne:r≠i) (h:0<=a/\a<=16384) (hn:0<=n/\n<=16384):bT ⟨11,r,i,a,n⟩:=vH (by simp[Ins.gT,mP,unused,o7,jk,nC];omega) (by decide)
theorem gI (op r n:Int) (ho:op=12\/op=13\/op=14\/op=15) (hr:0<=r/\r<16) (h:0<=n/\n<=16384):bT ⟨op,r,n,0,0⟩:=by
 rcases ho with rfl|rfl|rfl|rfl <;> exact vH (by simp[Ins.gT,mP,unused,o7,jk,nC];omega) (by decide)
theorem Ab (op a b:Int) (ho:op=1\/op=2\/op=3) (ha:0<=a/\a<16) (hb:0<=b/\b<16) (hne:a≠b):bT ⟨op,a,b,0,0⟩:=by
 rcases ho with rfl|rfl|rfl <;> exact vH (by simp[Ins.gT,mP,unused,o7,jk,nC];omega) (by decide)
theorem G6 (k:Int) (a b c:Int) (ha:0<=a/\a<16) (hb:0<=b/\b<16) (hc:0<=c/\c<16) (h1:a≠b) (h2:a≠c) (hk:8<=k/\k<=23):bT ⟨9,a,b,c,k⟩:=vH (by simp[Ins.gT,mP,unused,o7,jk,nC,Iw];omega) (by decide)
theorem Rf (r n:Int) (hr:0<=r/\r<16):bT ⟨6,r,n,0,0⟩:=vH (by simp[Ins.gT,mP,unused,o7,jk,nC];omega) (by decide)
theorem Rh (r n:Int) (hr:0<=r/\r<16) (hn:1<=n/\n<=23):bT ⟨21,r,n,0,0⟩:=vH (by simp[Ins.gT,mP,unused,o7,jk,nC];omega) (by decide)
theorem K9 (op a b:Int) (ho:op=16\/op=28\/op=29) (ha:0<=a/\a<=16384) (hb:0<=b/\b<=16384):bT ⟨op,a,b,0,0⟩:=by
 rcases ho with rfl|rfl|rfl <;> exact vH (by simp[Ins.gT,mP,unused,o7,jk,nC];omega) (by decide)
theorem wP (op a:Int) (ho:op=8\/op=17\/op=18\/op=19\/op=20) (ha:0<=a/\a<16):bT ⟨op,a,0,0,0⟩:=by
 rcases ho with rfl|rfl|rfl|rfl|rfl <;> exact vH (by simp[Ins.gT,mP,unused,o7,jk,nC];omega) (by decide)
theorem Ri:bT ⟨7,4,5,0,0⟩:=⟨by decide,by decide,by decide,by decide,by decide⟩
theorem aaq {x:Ins} (h:bT x):bT x.inv:=by
 obtain⟨o,a,b,c,d⟩:=x;obtain⟨hv,h0,h1,hm,hc⟩:=h;simp only at h0 h1 hm hc
 show bT ⟨dL o,a,b,c,d⟩
 have hcs:o=0\/o=1\/o=2\/o=3\/o=4\/o=5\/o=6\/o=7\/o=8\/o=9\/o=10\/o=11\/o=12\/o=13\/o=14\/o=15\/o=16\/o=17\/o=18\/o=19\/o=20\/o=21\/o=28\/o=29:=by
  simp only[bH,fU,gz,Bool.or_eq_false_iff,beq_eq_false_iff_ne]at hm;simp only[iw,Bool.or_eq_false_iff,beq_eq_false_iff_ne]at hc;omega
 rcases hcs with rfl|rfl|rfl|rfl|rfl|rfl|rfl|rfl|rfl|rfl|rfl|rfl|rfl|rfl|rfl|rfl|rfl|rfl|rfl|rfl|rfl|rfl|rfl|rfl <;> exact vH hv (by decide)
theorem Kq (l:List Ins) (h:∀ x∈l,bT x):∀ x∈dC l,bT x:=λx hx=>by
 unfold dC at hx;rw[List.mem_reverse]at hx;obtain⟨y,hy,rfl⟩:=List.mem_map.1 hx;exact aaq (h y hy)
mutual
theorem QG (f:ax) (hf:eP f):∀ (t:Tree) (p:Int),aN t=true->0<=p->p+aI t<=2000->∀ x∈iP f t p,bT x
 |.mk k n s l,p,he,h0,h1=>by
  have ih:=Qb f hf l p;have a1:=hf.a s 1;have a2:=hf.a s 2;have a3:=hf.a s 3;have l2:=hf.l s;have hc:=hf.c;rw[aI]at h1;unfold aj at a1 a2 a3;rw[aN]at he;rw[iP];intro x hx;by_cases k1:k=1
  · rw[if_pos k1]at hx;simp only[List.mem_cons,List.not_mem_nil,or_false]at hx;rcases hx with rfl|rfl
    · exact Rf _ _ (by decide)
    · exact gI _ _ _ (by decide) (by decide) (by decide)
  rw[if_neg k1]at he hx;by_cases k2:k=2
  · rw[if_pos k2]at hx;simp only[List.mem_cons,List.not_mem_nil,or_false]at hx;rcases hx with rfl|rfl|rfl|rfl
    · exact yL _ _ (by decide) (by omega)
    · exact Ab _ _ _ (by decide) (by decide) (by decide) (by decide)
    · exact yL _ _ (by decide) (by omega)
    · exact gI _ _ _ (by decide) (by decide) (by decide)
  rw[if_neg k2]at hx;by_cases k3:k=3
  · have ha:jv l=true:=by
     rw[if_neg (by omega),if_pos k3]at he;simp only[Bool.and_eq_true]at he;exact he.2.2
    rw[if_pos k3]at hx;rcases List.mem_append.1 hx with hx|hx
    · exact ih ha h0 (by omega) 0 x hx
    · simp only[List.mem_cons,List.not_mem_nil,or_false]at hx;rcases hx with rfl|rfl|rfl|rfl|rfl|rfl
      · exact gI _ _ _ (by decide) (by decide) (by decide)
      · exact Lp _ _ _ _ (by decide) (by decide) (by decide) (by omega) (by omega)
      · exact Ab _ _ _ (by decide) (by decide) (by decide) (by decide)
      · exact Lp _ _ _ _ (by decide) (by decide) (by decide) (by omega) (by omega)
      · exact gI _ _ _ (by decide) (by decide) (by decide)
      · exact gI _ _ _ (by decide) (by decide) (by decide)
  rw[if_neg k3]at hx;by_cases k4:k=4\/k=5
  · rw[if_pos k4]at hx;simp only[List.mem_cons,List.not_mem_nil,or_false]at hx;rcases hx with rfl|rfl
    · exact gI _ _ _ (by split <;> simp) (by decide) (by omega)
    · exact gI _ _ _ (by decide) (by decide) (by decide)
  rw[if_neg (by omega),if_neg k3]at he;rw[if_neg k4]at hx;by_cases k6:k=6
  · have ha:jv l=true:=by
     rw[if_pos (.inl k6)]at he;simp only[Bool.and_eq_true]at he;exact he.2.2
    rw[if_pos k6]at hx;simp only[List.mem_append,List.mem_cons,List.not_mem_nil,or_false]at hx;rcases hx with((hx|rfl)|rfl|rfl)|rfl|rfl
    · exact ih ha h0 (by omega) 0 x hx
    · exact gI _ _ _ (by decide) (by decide) (by decide)
    · exact Ab _ _ _ (by decide) (by decide) (by decide) (by decide)
    · exact wP _ _ (by decide) (by decide)
    · exact gI _ _ _ (by decide) (by decide) (by decide)
    · exact gI _ _ _ (by decide) (by decide) (by decide)
  rw[if_neg k6]at hx;by_cases k7:k=7
  · have ha:jv l=true:=by
     rw[if_pos (.inr k7)]at he;simp only[Bool.and_eq_true]at he;exact he.2.2
    rw[if_pos k7]at hx;simp only[List.mem_append,List.mem_cons,List.not_mem_nil,or_false]at hx;rcases hx with((hx|rfl)|rfl)|rfl|rfl
    · exact ih ha h0 (by omega) 0 x hx
    · exact gI _ _ _ (by decide) (by decide) (by decide)
    · exact G6 _ _ _ _ (by decide) (by decide) (by decide) (by decide) (by decide) (by decide)
    · exact gI _ _ _ (by decide) (by decide) (by decide)
    · exact gI _ _ _ (by decide) (by decide) (by decide)
  rw[if_neg (by omega)]at he;rw[if_neg k7]at hx;by_cases k8:8<=k/\k<=23
  · have ha:jv l=true/\l.length=2:=by
     rw[if_pos k8]at he;simp only[Bool.and_eq_true,beq_iff_eq]at he;exact⟨he.2.2,he.2.1⟩
    have hln:=Gc l;simp only[List.mem_append,List.mem_cons,List.not_mem_nil,or_false]at hx;rcases hx with(((hx|rfl|rfl)|hx)|rfl|rfl|rfl|rfl|rfl|rfl)
    · exact ih ha.1 h0 (by omega) 0 x hx
    · exact gI _ _ _ (by decide) (by decide) (by decide)
    · exact yL _ _ (by decide) (by omega)
    · exact ih ha.1 h0 (by omega) 1 x hx
    · exact gI _ _ _ (by decide) (by decide) (by decide)
    · exact yL _ _ (by decide) (by omega)
    · exact G6 _ _ _ _ (by decide) (by decide) (by decide) (by decide) (by decide) k8
    · exact gI _ _ _ (by decide) (by decide) (by decide)
    · exact gI _ _ _ (by decide) (by decide) (by decide)
    · exact gI _ _ _ (by decide) (by decide) (by decide)
  · rw[if_neg k8]at he;cases he
theorem Qb (f:ax) (hf:eP f):∀ (l:List Tree) (p:Int),jv l=true->0<=p->p+cu l<=2000->∀ (i:Nat),∀ x∈(jw f l p).getD i [],bT x
 | [],p,_,_,_,i=>by simp[jw]
 |t :: l,p,ha,h0,h1,0=>by
  rw[cu]at h1;rw[jv,Bool.and_eq_true]at ha;have:=QG f hf t p ha.1 h0 (by omega)
  simpa[jw]using this
 |t :: l,p,ha,h0,h1,i+1=>by
  rw[cu]at h1;rw[jv,Bool.and_eq_true]at ha;have hp:=size_pos t;have:=Qb f hf l (p+1) ha.2 (by omega) (by omega) i
  simpa[jw]using this
end
end Go.Proofs.YtnobahchcongnaaGreatDoor
