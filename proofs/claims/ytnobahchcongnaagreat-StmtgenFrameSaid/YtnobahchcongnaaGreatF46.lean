import Derived.Test.YtnobahchcongnaaGreatF45
set_option linter.unusedSimpArgs false
set_option linter.unusedVariables false
set_option maxRecDepth 100000
set_option maxHeartbeats 25600000
namespace Go.Proofs.YtnobahchcongnaaGreat
open Go.RowKit
def aav (f:az) (n:ByteArray) (v:aA):Prop:=∃ s,au f n v.kind=some s/\(v.kind=2->s.len=v.len)
def xX (f:az) (aB:List aA):Prop:=∀ n v,fZ aB n=some v->aav f n v
theorem NW (l:List aA) (v:aA) (n:ByteArray):fZ (l ++ [v]) n=if v.name == n then some v else fZ l n:=by
 induction l with
 |nil=>simp[fZ]
 |cons a l ih =>
  rw[List.cons_append,fZ,ih];by_cases h:(v.name == n)=true
  · simp[h]
  · simp only[h,if_false,Bool.false_eq_true];rw[fZ]
theorem OE:∀ (l:List aA) (n:ByteArray) (v:aA),fZ l n=some v->v∈l/\v.name=n
 | [],_,_,h=>by cases h
 |a :: l,n,v,h=>by
  rw[fZ]at h;cases hf:fZ l n with
  |some x =>
   rw[hf]at h;obtain rfl:x=v:=by simpa using h
   have:=OE l n x hf;exact⟨List.mem_cons_of_mem _ this.1,this.2⟩
  |none =>
   rw[hf]at h;by_cases he:(a.name == n)=true
   · rw[if_pos he]at h;obtain rfl:a=v:=by simpa using h
     exact⟨by simp,by simpa using he⟩
   · simp[he]at h
theorem Ir:∀ (l:List aA) (n:ByteArray),(∃ v∈l,v.name=n)->(fZ l n).isSome=true
 | [],_,h=>by obtain⟨v,h,_⟩:=h;cases h
 |a :: l,n,h=>by
  rw[fZ];cases hf:fZ l n with
  |some x=>rfl
  |none =>
   have:(a.name == n)=true:=by
    obtain⟨v,hv,he⟩:=h;rcases List.mem_cons.1 hv with rfl|hv
    · simpa using he
    · have:=Ir l n ⟨v,hv,he⟩;rw[hf]at this;cases this
   simp[this]
theorem IA (f:az) (v:aA) (n:ByteArray) (k:Int) (s:dL) (h:au f n k=some s):au (gL f v) n k=some s:=by
 unfold au gL at *;split
 · simp[List.find?_append,h]
 · split <;> simp[List.find?_append,h]
theorem IB (f:az) (v:aA):(au (gL f v) v.name v.kind).isSome=true:=by
 unfold au gL;split
 · rw[List.find?_append];simp[je]
 · split <;> (rw[List.find?_append];simp[je])
theorem VX (f:az) (t:Tree) (n:ByteArray) (k:Int) (s:dL) (h:au f n k=some s):au (addNode f t) n k=some s:=by
 unfold addNode;split
 · split
   · exact h
   · exact IA f _ n k s h
 · split
   · split
     · exact h
     · exact IA f _ n k s h
   · exact h
theorem Io:∀ (l:List Tree) (f:az) (n:ByteArray) (k:Int) (s:dL),au f n k=some s->au (l.foldl addNode f) n k=some s
 | [],_,_,_,_,h=>h
 |t :: l,f,n,k,s,h=>Io l (addNode f t) n k s (VX f t n k s h)
def Bc (f:az) (t:Tree):Prop:=(t.kind=54->(au f t.name 1).isSome=true)/\(t.kind=55->(au f t.name 3).isSome=true)
theorem Yn (f:az) (t:Tree):Bc (addNode f t) t:=by
 unfold addNode;constructor
 · intro h;rw[if_pos h];split
   · assumption
   · exact IB f ⟨t.name,1,0⟩
 · intro h;rw[if_neg (by omega),if_pos h];split
   · assumption
   · exact IB f ⟨t.name,3,0⟩
theorem Yo {f g:az} {t:Tree} (h:Bc f t) (hk:∀ n k s,au f n k=some s->au g n k=some s):Bc g t:=by
 refine⟨λe => ?_,λe => ?_⟩
 · obtain⟨s,hs⟩:=Option.isSome_iff_exists.1 (h.1 e);rw[hk _ _ _ hs];rfl
 · obtain⟨s,hs⟩:=Option.isSome_iff_exists.1 (h.2 e);rw[hk _ _ _ hs];rfl
theorem OG:∀ (l:List Tree) (f:az),∀ t∈l,Bc (l.foldl addNode f) t
 | [],_,t,h=>by cases h
 |a :: l,f,t,h=>by
  rw[List.foldl_cons];rcases List.mem_cons.1 h with rfl|h
  · exact Yo (Yn f t) (λn k s hs=>Io l _ n k s hs)
  · exact OG l (addNode f a) t h
theorem IX (l:List aA) (v:aA):frameC (l ++ [v])=gL (frameC l) v:=by simp[frameC]
theorem VY (f:az) (v:aA):∃ a,(gL f v).slots=f.slots ++ [⟨v.name,v.kind,v.len,a⟩]:=by
 unfold gL;split
 · exact⟨_,rfl⟩
 · split <;> exact⟨_,rfl⟩
theorem Xy (l:List aA):∀ s∈(frameC l).slots,∃ v∈l,s.name=v.name/\s.kind=v.kind/\s.len=v.len:=by
 have key:∀ (r pre:List aA),(∀ s∈(frameC pre).slots,∃ v∈pre,s.name=v.name/\s.kind=v.kind/\s.len=v.len)->∀ s∈(frameC (pre ++ r)).slots,∃ v∈pre ++ r,s.name=v.name/\s.kind=v.kind/\s.len=v.len:=by
  intro r
  induction r with
  |nil=>intro pre h;simpa using h
  |cons v r ih =>
   intro pre h;have:=ih (pre ++ [v]) (λs hs=>by
    rw[IX]at hs;obtain⟨a,ha⟩:=VY (frameC pre) v;rw[ha]at hs;rcases List.mem_append.1 hs with hs|hs
    · obtain⟨u,hu,he⟩:=h s hs;exact⟨u,by simp[hu],he⟩
    · obtain rfl:=List.mem_singleton.1 hs;exact⟨v,by simp,rfl,rfl,rfl⟩)
   simpa using this
 have:=key l [] (λs hs=>by simp[frameC,iI]at hs)
 simpa using this
theorem Pk:∀ (r pre:List aA) (v:aA),v∈r->(au (frameC (pre ++ r)) v.name v.kind).isSome=true
 | [],_,_,h=>by cases h
 |a :: r,pre,v,h=>by
  have e:pre ++ a :: r=(pre ++ [a]) ++ r:=by simp
  rw[e];rcases List.mem_cons.1 h with rfl|h
  · have h1:=IB (frameC pre) v;rw[← IX]at h1;have keep:∀ (r q:List aA) (n:ByteArray) (k:Int),(au (frameC q) n k).isSome=true->(au (frameC (q ++ r)) n k).isSome=true:=by
     intro r
     induction r with
     |nil=>intro q n k h;simpa using h
     |cons b r ih =>
      intro q n k h;have h2:(au (frameC (q ++ [b])) n k).isSome=true:=by
       obtain⟨s,hs⟩:=Option.isSome_iff_exists.1 h;rw[IX,IA _ _ _ _ _ hs];rfl
      have:=ih (q ++ [b]) n k h2
      simpa using this
    exact keep r (pre ++ [v]) _ _ h1
  · exact Pk r (pre ++ [a]) v h
theorem PY:∀ (l:List aA) (seen:List ByteArray),nR seen l=false->(∀ v∈l,∀ u∈l,v.name=u.name->v=u)/\∀ v∈l,v.name ∉ seen
 | [],_,_=>⟨by simp,by simp⟩
 |a :: l,seen,h=>by
  rw[nR,Bool.or_eq_false_iff]at h;obtain⟨h1,h2⟩:=PY l (seen ++ [a.name]) h.2;have ha:a.name ∉ seen:=λhm=>by
   have:=List.any_eq_false.1 h.1 a.name hm;simp at this
  refine⟨λv hv u hu e => ?_,λv hv => ?_⟩
  · rcases List.mem_cons.1 hv with rfl|hv'
    · rcases List.mem_cons.1 hu with rfl|hu'
      · rfl
      · exact absurd (by simp[e]:u.name∈seen ++ [v.name]) (h2 u hu')
    · rcases List.mem_cons.1 hu with rfl|hu'
      · exact absurd (by simp[e]:v.name∈seen ++ [u.name]) (h2 v hv')
      · exact h1 v hv' u hu' e
  · rcases List.mem_cons.1 hv with rfl|hv'
    · exact ha
    · exact λhm=>h2 v hv' (by simp[hm])
theorem JB:∀ (l pre:List aA),gG pre l=0->nR (pre.map aA.name) l=false
 | [],_,_=>rfl
 |v :: l,pre,h=>by
  rw[gG]at h;have h1:lL (mi pre v.name)=0:=by omega
  have h2:=JB l (pre ++ [v]) (by omega);rw[nR,Bool.or_eq_false_iff];refine⟨?_,by simpa using h2⟩;rw[List.any_eq_false];intro s hs;obtain⟨u,hu,rfl⟩:=List.mem_map.1 hs;intro he;have:=Ir pre v.name ⟨u,hu,by simpa using he⟩;unfold mi at h1;rw[if_pos this]at h1;simp[lL]at h1
theorem Xz (vars:List aA) (ns:List Tree) (hd:nR [] vars=false):xX (eG vars ns) vars:=by
 intro n v hf;obtain⟨hm,rfl⟩:=OE vars n v hf;have h1:=Pk vars [] v hm;rw[List.nil_append]at h1;obtain⟨s,hs⟩:=Option.isSome_iff_exists.1 h1;refine⟨s,Io ns _ _ _ _ hs,λ_ => ?_⟩;have hsm:s∈(frameC vars).slots:=List.mem_of_find?_eq_some hs;have hsn:je v.name v.kind s=true:=List.find?_some hs;obtain⟨u,hu,e1,e2,e3⟩:=Xy vars s hsm;simp only[je,Bool.and_eq_true,beq_iff_eq]at hsn;have:=(PY vars [] hd).1 u hu v hm (by rw[← e1];exact hsn.1);rw[e3,this]
theorem NY {f:az} {aB:List aA} (h:xX f aB) (k:Int) (s:ByteArray) (i:Nat) (hl:Bc f (.mk k 0 s [])):xX f (kT (.mk k 0 s []) i aB):=by
 unfold kT;split
 · rename_i h1;intro n v hf;rw[NW]at hf;split at hf
   · rename_i he;obtain rfl:=Option.some.inj hf;obtain⟨x,hx⟩:=Option.isSome_iff_exists.1 (hl.1 h1.1);have he':s=n:=by simpa[Tree.name]using he
     subst he';exact⟨x,hx,λe=>by simp at e⟩
   · exact h n v hf
 · split
   · rename_i h1;intro n v hf;rw[NW]at hf;split at hf
     · rename_i he;obtain rfl:=Option.some.inj hf;obtain⟨x,hx⟩:=Option.isSome_iff_exists.1 (hl.2 h1.1);have he':s=n:=by simpa[Tree.name]using he
       subst he';exact⟨x,hx,λe=>by simp at e⟩
     · exact h n v hf
   · exact h
theorem BO {e:Int} (h:lL e=0):e=0:=by
 unfold lL at h;split at h
 · assumption
 · cases h
theorem Fe {f:az} {aB:List aA} {n:ByteArray} {k:Int} (hg:xX f aB) (h:nH aB n k=0):(au f n k).isSome=true:=by
 unfold nH at h;split at h
 · cases h
 · rename_i v hv;split at h
   · rename_i hk;subst hk;obtain⟨s,hs,-⟩:=hg n v hv;rw[hs];rfl
   · cases h
theorem BP (P:List aU) (k:Int) (s:ByteArray):∀ (l:List Tree) (i:Nat) (aB:List aA),o6 P k s i l aB=0->∀ j (h:j<l.length),gP P l[j] (kT (.mk k 0 s []) (i+j) aB)=0
 | [],_,_,_,j,h=>by simp at h
 |t :: r,i,aB,h,0,_=>by rw[o6]at h;simp only[Nat.add_zero,List.getElem_cons_zero];omega
 |t :: r,i,aB,h,j+1,hj=>by
  rw[o6]at h;have:=BP P k s r (i+1) aB (by omega) j (by simpa using hj);simp only[List.getElem_cons_succ];rw[show i+(j+1)=i+1+j by omega];exact this
theorem NZ {k:Int} {s:ByteArray} {i:Nat} {aB:List aA} (jJ:k≠54) (jK:k≠55):kT (.mk k 0 s []) i aB=aB:=by
 unfold kT;rw[if_neg (λh=>jJ h.1),if_neg (λh=>jK h.1)]
theorem Je {l:List Tree} (h:mf l=true) (j:Nat) (hj:j<l.length):aM l[j]=true:=by
 rw[Od]at h;exact List.all_eq_true.1 h _ (List.getElem_mem hj)
theorem Oa {f:az} {procs:List aU} {l:List Tree} (h:∀ j (hj:j<l.length),l[j].kind=57\/dm f procs l[j]=true):kN f procs l=true:=by
 rw[Ar];refine List.all_eq_true.2 λt ht => ?_;obtain⟨j,hj,rfl⟩:=List.mem_iff_getElem.1 ht;rcases h j hj with h|h
 · simp[h]
 · simp[h]
def dZ (t:Tree):Bool:=(dD t).any λn=>n.kind == 56
def BZ (l:List Tree):Bool:=(gF l).any λn=>n.kind == 56
theorem yP (k n:Int) (s:ByteArray) (l:List Tree):dZ (.mk k n s l)=((k == 56) || BZ l):=by simp[dZ,BZ,dD,Tree.kind]
theorem BN (l:List Tree):BZ l=l.any dZ:=by
 induction l with
 |nil=>rfl
 |cons t l ih=>rw[List.any_cons,← ih];simp[BZ,dZ,gF]
theorem BQ {k n:Int} {s:ByteArray} {l:List Tree} (h:aM (.mk k n s l)=true):(k=1\/k=2\/k=3\/k=4\/k=5\/k=6\/k=7\/(8<=k/\k<=23))/\(mf l=true):=by
 rw[aM]at h;split at h
 · rename_i hk;simp only[Bool.and_eq_true]at h;have:l=[]:=by simpa using h.2.2
   exact⟨.inl hk,by rw[this];rfl⟩
 · split at h
   · rename_i hk;simp only[Bool.and_eq_true]at h;have:l=[]:=by simpa using h.2
     exact⟨by omega,by rw[this];rfl⟩
   · split at h
     · rename_i hk;simp only[Bool.and_eq_true]at h;exact⟨by omega,h.2.2⟩
     · split at h
       · rename_i hk;simp only[Bool.and_eq_true]at h;exact⟨by omega,h.2.2⟩
       · split at h
         · rename_i hk;simp only[Bool.and_eq_true]at h;exact⟨by omega,h.2.2⟩
         · cases h
theorem XA (f:az) (procs P:List aU):∀ (m:Nat) (t:Tree),SizeOf.sizeOf t<=m->aM t=true->∀ aB,xX f aB->gP P t aB=0->dm f procs t=true/\dZ t=false/\t.kind≠57:=by
 intro m
 induction m with
 |zero=>intro t hm;cases t;simp at hm
 |succ m ih =>
  intro t hm he aB hg hv;obtain⟨k,n,s,l⟩:=t;obtain⟨hk,hl⟩:=BQ he;have h50:¬ (k=50\/k=51):=by omega
  rw[gP,if_neg h50]at hv;have hf:fu P k s l.length aB=0:=BO (by omega);have Cr:∀ j (hj:j<l.length),dm f procs l[j]=true/\dZ l[j]=false/\l[j].kind≠57:=λj hj=>by
   have h1:=BP P k s l 0 aB (by omega) j hj;rw[NZ (by omega) (by omega)]at h1;refine ih l[j] ?_ (Je hl j hj) aB hg h1;have:=List.sizeOf_lt_of_mem (List.getElem_mem hj);simp only[Tree.mk.sizeOf_spec]at hm;omega
  have hall:kN f procs l=true:=Oa λj hj => .inr (Cr j hj).1;have hset:dZ (.mk k n s l)=false:=by
   rw[yP,BN,Bool.or_eq_false_iff];refine⟨by simp;omega,List.any_eq_false.2 λt ht => ?_⟩;obtain⟨j,hj,rfl⟩:=List.mem_iff_getElem.1 ht;rw[(Cr j hj).2.1];simp
  refine⟨?_,hset,by simp only[Tree.kind];omega⟩;rw[dm];by_cases h2:k=2
  · subst h2;simp only[fu,if_true]at hf;rw[if_pos (.inl rfl),Fe hg hf,hall];rfl
  · by_cases h3:k=3
    · subst h3;unfold fu at hf;rw[if_neg (by decide),if_pos rfl]at hf;rw[if_neg (by decide),if_pos rfl,Fe hg hf,hall];rfl
    · by_cases h4:k=4\/k=5
      · have hf3:nH aB s 3=0:=by
         unfold fu at hf;rw[if_neg h2,if_neg h3,if_pos (by omega)]at hf;exact hf
        rw[if_neg (by omega),if_neg h3,if_pos (by omega),Fe hg hf3,hall];rfl
      · rw[if_neg (by omega),if_neg h3,if_neg (by omega),if_neg h50];exact hall
theorem PZ (P:List aU) (s:ByteArray) (n:Nat):∀ (l:List Tree) (i:Nat) (aB:List aA),nD P s n i l aB=0->∀ j (h:j<l.length),pg P s n l[j].name (i+j) aB=0
 | [],_,_,_,j,h=>by simp at h
 |t :: r,i,aB,h,0,_=>by rw[nD]at h;simp only[Nat.add_zero,List.getElem_cons_zero];exact BO (by omega)
 |t :: r,i,aB,h,j+1,hj=>by
  rw[nD]at h;have:=PZ P s n r (i+1) aB (by omega) j (by simpa using hj);simp only[List.getElem_cons_succ];rw[show i+(j+1)=i+1+j by omega];exact this
def Ct (procs:List aU):Prop:=∀ p∈procs,jX p.params=0
theorem ZK {f:az} {procs:List aU} {s:ByteArray} {l:List Tree} {aB:List aA} (hg:xX f aB) (hp:Ct procs) {k:Int} (hk:k=50\/k=51) (hf:fu procs k s l.length aB=0) (ha:nD procs s l.length 0 l aB=0):rJ f procs s l=true/\sJ f procs s l=0:=by
 unfold fu at hf;rw[if_neg (by omega),if_neg (by omega),if_neg (by omega),if_neg (by omega),if_pos hk]at hf;have hat:=PZ procs s l.length l 0 aB ha;simp only[Nat.zero_add]at hat;unfold rJ sJ vU;simp only[pg]at hat;cases hfp:procs.find? (λq=>q.name == s)with
 |none=>rw[hfp]at hf;cases hf
 |some q =>
  rw[hfp]at hf;simp only[hfp]at hat;simp only at hf;have hlen:l.length=q.params.length:=by
   by_cases h:l.length=q.params.length
   · exact h
   · rw[if_neg h]at hf;cases hf
  have hv:∀ j (hj:j<l.length) (hq:j<q.params.length),∃ v,fZ aB l[j].name=some v/\v.kind=q.params[j].kind/\v.len=q.params[j].len:=λj hj hq=>by
   have h1:=hat j hj;split at h1
   · cases h1
   · rename_i v hv;rw[if_pos hlen]at h1;split at h1
     · rename_i hc;rw[show q.params.getD j o9=q.params[j] by simp[List.getD,hq]]at hc;exact⟨v,hv,hc⟩
     · cases h1
  have hz:∀ x∈l.zip q.params,∃ v,fZ aB x.1.name=some v/\v.kind=x.2.kind/\v.len=x.2.len:=λx hx=>by
   obtain⟨j,hj,rfl⟩:=List.mem_iff_getElem.1 hx;simp only[List.length_zip]at hj;simp only[List.getElem_zip];exact hv j (by omega) (by omega)
  refine⟨List.all_eq_true.2 λx hx => ?_,?_⟩
  · obtain⟨v,h1,h2,h3⟩:=hz x hx;obtain⟨sl,hs,-⟩:=hg _ v h1;rw[← h2,hs];rfl
  · simp only[Option.map_some,Option.getD_some];rw[if_neg (by omega),if_pos (List.all_eq_true.2 λx hx => ?_)]
    · exact hp q (List.mem_of_find?_eq_some hfp)
    · obtain⟨v,h1,h2,h3⟩:=hz x hx;obtain⟨sl,hs,hl⟩:=hg _ v h1;unfold qw;by_cases Ng:x.2.kind=2
      · have hs2:au f x.1.name 2=some sl:=by rw[← Ng,← h2];exact hs
        rw[hs2];simp[Ng,hl (by omega),h3]
      · simp[Ng]
theorem IY:∀ (l:List Int),(∀ x∈l,x=0\/x=9)->mQ l=if l.any (· == 9)then 9 else 0
 | [],_=>rfl
 |a :: l,h=>by
  have ih:=IY l (λx hx=>h x (by simp[hx]));rw[mQ];rcases h a (by simp)with rfl|rfl
  · simp[ih]
  · simp
theorem yQ {t:Tree} (h:bW t=true):t.kind=57/\∀ j (hj:j<t.kids.length),bP t.kids[j]=true:=by
 obtain⟨k,n,s,l⟩:=t;rw[bW,Bool.and_eq_true,Bool.and_eq_true,I1]at h;exact⟨(by have:=h.1;simp only[beq_iff_eq]at this;exact this),λj hj=>List.all_eq_true.1 h.2.2 _ (List.getElem_mem hj)⟩
theorem Pm {k n:Int} {s:ByteArray} {l:List Tree} (h:bP (.mk k n s l)=true):40<=k/\k<=56:=by
 rw[bP]at h
 repeat' split at h
 all_goals first|omega|cases h
theorem vM {t:Tree} (h:ik t=true):aM t=true:=by
 simp only[ik,Bool.and_eq_true]at h;exact h.2
theorem nP (ps:List (Tree->Bool)) (l:List Tree) (h:bV ps l=true) (i:Nat) (h1:i<ps.length) (h2:i<l.length):ps[i] l[i]=true:=O9 ps l h i h1 h2
theorem JD {k n:Int} {s:ByteArray} {l:List Tree} (h:bP (.mk k n s l)=true) (h50:¬ (k=50\/k=51)):∀ j (hj:j<l.length),aM l[j]=true\/(bW l[j]=true/\(k=54->j=1)/\(k=55->j=0)):=by
 rw[bP]at h;intro j hj;split at h
 · simp only[Bool.and_eq_true]at h;have hl:=uo _ _ h.2;simp only[List.length_cons,List.length_nil]at hl;have h0:=nP _ _ h.2 0 (by simp) (by omega);have h1:=nP _ _ h.2 1 (by simp) (by omega);simp only[List.getElem_cons_zero,List.getElem_cons_succ]at h0 h1;rcases(show j=0\/j=1 by omega)with rfl|rfl
   · exact .inl (vM h0)
   · exact .inl h1
 · split at h
   · simp only[Bool.and_eq_true]at h;have hl:=uo _ _ h.2;simp only[List.length_cons,List.length_nil]at hl;have h0:=nP _ _ h.2 0 (by simp) (by omega);have h1:=nP _ _ h.2 1 (by simp) (by omega);simp only[List.getElem_cons_zero,List.getElem_cons_succ]at h0 h1;rcases(show j=0\/j=1 by omega)with rfl|rfl
     · exact .inl (vM h0)
     · exact .inl (vM h1)
   · split at h
     · simp only[Bool.and_eq_true]at h;have hl:=uo _ _ h.2;simp only[List.length_cons,List.length_nil]at hl;have h0:=nP _ _ h.2 0 (by simp) (by omega);simp only[List.getElem_cons_zero]at h0;obtain rfl:j=0:=by omega
       exact .inl (vM h0)
     · split at h
       · simp only[Bool.and_eq_true]at h;have hl:=uo _ _ h.2;simp only[List.length_cons,List.length_nil]at hl;have h0:=nP _ _ h.2 0 (by simp) (by omega);simp only[List.getElem_cons_zero]at h0;obtain rfl:j=0:=by omega
         exact .inl (vM h0)
       · split at h
         · simp only[Bool.and_eq_true]at h;have hl:=uo _ _ h.2.1;simp only[List.length_cons,List.length_nil]at hl;have h0:=nP _ _ h.2.1 0 (by simp) (by omega);have h3:=nP _ _ h.2.1 3 (by simp) (by omega);simp only[List.getElem_cons_zero,List.getElem_cons_succ]at h0 h3;obtain⟨g1,e1⟩:=o5 _ 1 h.2.2.1;obtain⟨g2,e2⟩:=o5 _ 2 h.2.2.2;rename_i hk;rcases(show j=0\/j=1\/j=2\/j=3 by omega)with rfl|rfl|rfl|rfl
           · exact .inl h0
           · exact .inr ⟨e1,by omega,by omega⟩
           · exact .inr ⟨e2,by omega,by omega⟩
           · exact .inl h3
         · split at h
           · simp only[Bool.and_eq_true]at h;have hl:=uo _ _ h.2.1;simp only[List.length_cons,List.length_nil]at hl;have h0:=nP _ _ h.2.1 0 (by simp) (by omega);have h2:=nP _ _ h.2.1 2 (by simp) (by omega);simp only[List.getElem_cons_zero,List.getElem_cons_succ]at h0 h2;obtain⟨g1,e1⟩:=o5 _ 1 h.2.2;rename_i hk;rcases(show j=0\/j=1\/j=2 by omega)with rfl|rfl|rfl
             · exact .inl h0
             · exact .inr ⟨e1,λ_=>rfl,by omega⟩
             · exact .inl h2
           · split at h
             · simp only[Bool.and_eq_true]at h;obtain⟨g1,e1⟩:=o5 _ 0 h.2.2;rename_i hk;have hl:l.length=1:=by simpa using h.2.1
               obtain rfl:j=0:=by omega
               exact .inr ⟨e1,by omega,λ_=>rfl⟩
             · cases h
theorem EN (t:Tree):t∈dD t:=by obtain⟨k,n,s,l⟩:=t;simp[dD]
theorem Yp {l:List Tree} {t:Tree} (h:t∈l):∀ n∈dD t,n∈gF l:=by
 induction l with
 |nil=>cases h
 |cons a l ih =>
  intro n hn;simp only[gF,List.mem_append];rcases List.mem_cons.1 h with rfl|h
  · exact .inl hn
  · exact .inr (ih h n hn)
theorem Zm {k n:Int} {s:ByteArray} {l:List Tree} {t:Tree} (h:t∈l):∀ m∈dD t,m∈dD (.mk k n s l):=λm hm=>by
 simp only[dD,List.mem_cons];exact .inr (Yp h m hm)
def Cu (f:az) (t:Tree):Prop:=∀ n∈dD t,Bc f n
theorem Cu.kid {f:az} {k n:Int} {s:ByteArray} {l:List Tree} (h:Cu f (.mk k n s l)) {t:Tree} (ht:t∈l):Cu f t:=λm hm=>h m (Zm ht m hm)
theorem Yq {f:az} {procs:List aU} {t:Tree} (h:mh t=true):dZ t=false:=by
 obtain⟨k,n,s,l⟩:=t;simp only[mh,Bool.and_eq_true,beq_iff_eq,Tree.kind]at h;have he:=h.2;rw[aM]at he;rw[if_neg (by omega),if_pos (by omega)]at he;simp only[Bool.and_eq_true]at he;have hl:l=[]:=by simpa using he.2
 subst hl;rw[yP];simp only[BZ,gF,List.any_nil,Bool.or_false];simp;omega
theorem JE {k n:Int} {s:ByteArray} {l:List Tree} (h:bP (.mk k n s l)=true) (hk:k=50\/k=51):∀ t∈l,mh t=true:=by
 rw[bP,if_neg (by omega),if_neg (by omega),if_neg (by omega),if_neg (by omega),if_pos hk]at h;simp only[Bool.and_eq_true]at h;exact λt ht=>List.all_eq_true.1 h.2.2 t ht
theorem P5 (l:List Tree):(l.map λt=>if dZ t then(9:Int)else 0).any (· == 9)=l.any dZ:=by
 rw[List.any_map];congr 1;funext t;by_cases h:dZ t=true <;> simp[h]
theorem WI (f:az) (procs:List aU) (hp:Ct procs):∀ (m:Nat) (t:Tree),SizeOf.sizeOf t<=m->∀ aB,xX f aB->Cu f t->gP procs t aB=0 ->
 (bP t=true->jm f procs t=if dZ t then 9 else 0)/\(bW t=true->eT f procs t=if dZ t then 9 else 0):=by
 intro m
 induction m with
 |zero=>intro t hm;cases t;simp at hm
 |succ m ih =>
  intro t hm aB hg hl hv;obtain⟨k,n,s,l⟩:=t;have hsz:∀ j (hj:j<l.length),SizeOf.sizeOf l[j]<=m:=λj hj=>by
   have:=List.sizeOf_lt_of_mem (List.getElem_mem hj);simp only[Tree.mk.sizeOf_spec]at hm;omega
  constructor
  · intro hs;have hk:=Pm hs;rw[jm];by_cases qP:k=56
    · rw[if_pos qP,yP];simp[qP]
    · rw[if_neg qP];by_cases h50:k=50\/k=51
      · rw[gP,if_pos h50]at hv;have hfa:fu procs k s l.length aB=0:=BO (by omega);have hsa:nD procs s l.length 0 l aB=0:=by omega
        obtain⟨h1,h2⟩:=ZK hg hp h50 hfa hsa;have hnb:dm f procs (.mk k n s l)=true:=by
         rw[dm,if_neg (by omega),if_neg (by omega),if_neg (by omega),if_pos h50];exact h1
        have hst:dZ (.mk k n s l)=false:=by
         rw[yP,BN,Bool.or_eq_false_iff];refine⟨by simp;omega,List.any_eq_false.2 λt ht => ?_⟩;rw[Yq (f:=f) (procs:=procs) (JE hs h50 t ht)];simp
        rw[hnb,hst,if_neg (by simp),if_pos h50,h2];rfl
      · rw[gP,if_neg h50]at hv;have hf:fu procs k s l.length aB=0:=BO (by omega);have Cr:=JD hs h50;have hva:=BP procs k s l 0 aB (by omega);simp only[Nat.zero_add]at hva;have Lt:∀ j (hj:j<l.length),aM l[j]=true->dm f procs l[j]=true/\dZ l[j]=false/\l[j].kind≠57:=λj hj he=>by
         refine XA f procs procs _ l[j] (Nat.le_refl _) he _ ?_ (hva j hj);exact NY hg k s j (by have h:=hl (.mk k n s l) (EN _);exact⟨h.1,h.2⟩)
        have hblk:∀ j (hj:j<l.length),bW l[j]=true->eT f procs l[j]=if dZ l[j]then 9 else 0:=λj hj hb=>by
         refine(ih l[j] (hsz j hj) _ ?_ (hl.kid (List.getElem_mem hj)) (hva j hj)).2 hb;exact NY hg k s j (by have h:=hl (.mk k n s l) (EN _);exact⟨h.1,h.2⟩)
        have hall:kN f procs l=true:=Oa λj hj=>by
         rcases Cr j hj with he|hb
         · exact .inr (Lt j hj he).1
         · exact .inl (yQ hb.1).1
        have hnb:dm f procs (.mk k n s l)=true:=by
         rw[dm];have hk2:k≠2/\k≠3/\k≠4/\k≠5:=by omega
         by_cases jJ:k=54
         · have h1:(au f s 1).isSome=true:=(hl (.mk k n s l) (EN _)).1 jJ;rw[if_pos (.inr jJ),h1,hall];rfl
         · rw[if_neg (by omega),if_neg (by omega)];by_cases jK:k=55
           · have h1:(au f s 3).isSome=true:=(hl (.mk k n s l) (EN _)).2 jK;rw[if_pos (by omega),h1,hall];rfl
           · by_cases oq:k=44\/k=45
             · have hf3:nH aB s 3=0:=by
                unfold fu at hf;rw[if_neg (by omega),if_neg (by omega),if_pos (by omega)]at hf;exact hf
               rw[if_pos (by omega),Fe hg hf3,hall];rfl
             · rw[if_neg (by omega),if_neg h50];exact hall
        have hset:dZ (.mk k n s l)=l.any dZ:=by
         rw[yP,BN];simp[qP]
        rw[hnb,if_neg (by simp),if_neg h50,EG,hset];have hz:∀ j (hj:j<l.length),(if l[j].kind=57 then eT f procs l[j]else 0)=if dZ l[j]then 9 else 0:=λj hj=>by
         rcases Cr j hj with he|hb
         · rw[if_neg (Lt j hj he).2.2,(Lt j hj he).2.1];rfl
         · rw[if_pos (yQ hb.1).1];exact hblk j hj hb.1
        have hmap:(l.map λt=>if t.kind=57 then eT f procs t else 0)=l.map λt=>if dZ t then(9:Int)else 0:=by
         refine List.map_congr_left λt ht => ?_;obtain⟨j,hj,rfl⟩:=List.mem_iff_getElem.1 ht;exact hz j hj
        rw[hmap,IY _ (λx hx=>by
         obtain⟨t,-,rfl⟩:=List.mem_map.1 hx;by_cases h:dZ t=true <;> simp[h])]
        rw[P5]
  · intro hb;obtain⟨hk,hst⟩:=yQ hb;simp only[Tree.kind,Tree.kids]at hk hst;subst hk;rw[gP,if_neg (by decide)]at hv;have hva:=BP procs 57 s l 0 aB (by omega);simp only[Nat.zero_add]at hva;have hs:∀ j (hj:j<l.length),jm f procs l[j]=if dZ l[j]then 9 else 0:=λj hj=>by
     have h1:=hva j hj;rw[NZ (by decide) (by decide)]at h1;exact(ih l[j] (hsz j hj) aB hg (hl.kid (List.getElem_mem hj)) h1).1 (hst j hj)
    rw[eT,I8];have hmap:l.map (jm f procs)=l.map λt=>if dZ t then(9:Int)else 0:=by
     refine List.map_congr_left λt ht => ?_;obtain⟨j,hj,rfl⟩:=List.mem_iff_getElem.1 ht;exact hs j hj
    rw[hmap,IY _ (λx hx=>by
     obtain⟨t,-,rfl⟩:=List.mem_map.1 hx;by_cases h:dZ t=true <;> simp[h])]
    have hset:dZ (.mk 57 n s l)=l.any dZ:=by rw[yP,BN];rfl
    rw[hset];rw[P5]
def fQ (t:Tree):Bool:=t.kind == 50 || t.kind == 51
def sG (t:Tree):Nat:=(dD t).countP fQ
def uH (l:List Tree):Nat:=(gF l).countP fQ
theorem JF (k n:Int) (s:ByteArray) (l:List Tree):sG (.mk k n s l)=uH l+(if k=50\/k=51 then 1 else 0):=by
 rw[sG,dD,List.countP_cons,uH];by_cases h:k=50\/k=51
 · have:fQ (.mk k n s l)=true:=by simp only[fQ,Tree.kind];rcases h with rfl|rfl <;> rfl
   rw[this,if_pos h];rfl
 · have:fQ (.mk k n s l)=false:=by
    simp only[fQ,Tree.kind,Bool.or_eq_false_iff,beq_eq_false_iff_ne];omega
   rw[this,if_neg h];rfl
theorem yJ (t:Tree) (l:List Tree):uH (t :: l)=sG t+uH l:=by simp[uH,sG,gF]
theorem Jf (l:List aI):(aP l).refs.length=(l.map λp=>p.refs.length).sum:=by
 have key:∀ (l:List aI) (p:aI),(l.foldl xS p).refs.length=p.refs.length+(l.map λp=>p.refs.length).sum:=by
  intro l
  induction l with
  |nil=>intro p;simp
  |cons a l ih=>intro p;rw[List.foldl_cons,ih];simp[xS];omega
 rw[aP,key];simp[fP]
theorem Pn (f:az) (kids:List Tree) (slots:List dL):∀ p∈jv f kids slots,p.refs=[]:=by
 intro p hp;unfold jv at hp;obtain⟨a,ha,BF⟩:=List.mem_flatten.1 hp;obtain⟨x,-,rfl⟩:=List.mem_map.1 ha;unfold qB at BF;split at BF
 · obtain rfl:=List.mem_singleton.1 BF;rfl
 · obtain⟨j,-,rfl⟩:=List.mem_map.1 BF;rfl
theorem P6 (l:List aI) (h:∀ p∈l,p.refs=[]):(l.map λp=>p.refs.length).sum=0:=by
 induction l with
 |nil=>rfl
 |cons a l ih=>simp[h a (by simp),ih (λp hp=>h p (by simp[hp]))]
theorem Yr (f:az) (procs:List aU) (op:Int) (s:ByteArray) (l:List Tree):(sI f procs op s l).refs.length=1:=by
 unfold sI;rw[Jf];simp only[List.map_cons,List.map_nil,List.sum_cons,List.sum_nil,Jf,ah,List.length_nil,List.length_cons];rw[P6 _ (Pn f l _),P6 _ (λp hp=>Pn f l _ p (List.mem_reverse.1 hp))];rfl
end Go.Proofs.YtnobahchcongnaaGreat
