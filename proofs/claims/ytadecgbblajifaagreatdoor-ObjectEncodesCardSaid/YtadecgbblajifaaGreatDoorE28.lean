import Derived.Test.YtadecgbblajifaaGreatDoorE27
set_option linter.unusedSimpArgs false
set_option linter.unusedVariables false
set_option maxRecDepth 100000
set_option maxHeartbeats 25600000
namespace Go.Proofs.YtadecgbblajifaaGreatDoor
open Go.RowKit Go.Instr
abbrev Pa (α:Type):=List Int->Option (α × List Int)
def pI (n:Nat):Pa Int:=λb=>if b.length<n then none else some (gp (b.take n),b.drop n)
def V5 (l:List Int):ByteArray:=⟨(l.map λx=>x.toNat.toUInt8).toArray⟩
def iX {α β:Type} (p:Pa α) (f:α->Pa β):Pa β:=λb=>match p b with
 |none=>none
 |some (x,r)=>f x r
def oJ {α:Type} (x:α):Pa α:=λb=>some (x,b)
def pN {α:Type} (p:Pa α):Nat->Pa (List α)
 |0=>oJ []
 |n+1=>iX p λx=>iX (pN p n) λl=>oJ (x :: l)
def Gz {α:Type} (p:Pa α) (f:α->List Int) (Q:α->Prop):Prop:=∀ b x r,dW b->p b=some (x,r)->f x ++ r=b/\Q x
theorem AA {f r b:List Int} (hb:dW b) (h:f ++ r=b):dW r:=λc hc=>hb c (by rw[← h];exact List.mem_append_right _ hc)
theorem DJ {α β:Type} {p:Pa α} {f:α->Pa β} {b:List Int} {y:β} {r:List Int} (h:iX p f b=some (y,r)):∃ x r1,p b=some (x,r1)/\f x r1=some (y,r):=by
 unfold iX at h
 cases hq:p b with
 |none=>rw[hq]at h;cases h
 |some z=>rw[hq]at h;exact⟨z.1,z.2,rfl,h⟩
theorem Qt {α:Type} {x y:α} {b r:List Int} (h:oJ x b=some (y,r)):x=y/\b=r:=by
 simp only[oJ,Option.some.injEq,Prod.mk.injEq]at h
 exact h
theorem Bj (n:Nat) (hn:n<=4):Gz (pI n) (λx=>ah x n) (λx=>0<=x/\x<256 ^ n):=by
 intro b x r hb h
 unfold pI at h
 split at h
 · cases h
 · simp only[Option.some.injEq,Prod.mk.injEq]at h
   obtain⟨rfl,rfl⟩:=h
   have hB:dW (b.take n):=λc hc=>hb c (List.mem_of_mem_take hc)
   have hl:(b.take n).length=n:=by simp;omega
   have h1:=Qr hB (by omega)
   have h2:=Ow hB (by omega)
   have h3:=Dx hB
   rw[hl]at h1 h3
   refine⟨by show ah (gp (b.take n)) n ++ _=b;rw[h1];exact List.take_append_drop _ _,?_⟩
   rw[h2]
   exact h3
theorem abJ:Gz (pI 8) (λx=>ah x 8) (λx=>In64 x):=by
 intro b x r hb h
 unfold pI at h
 split at h
 · cases h
 · simp only[Option.some.injEq,Prod.mk.injEq]at h
   obtain⟨rfl,rfl⟩:=h
   have hB:dW (b.take 8):=λc hc=>hb c (List.mem_of_mem_take hc)
   have hl:(b.take 8).length=8:=by simp;omega
   have h1:=Qr hB (by omega)
   rw[hl]at h1
   exact⟨by show ah (gp (b.take 8)) 8 ++ _=b;rw[h1];exact List.take_append_drop _ _,Dy _⟩
def wS (s:ByteArray):List Int:=ah s.size 1 ++ cK s
def wV (v:aT):List Int:=wS v.name ++ ah v.kind 1 ++ ah v.len 1
def cO (v:aI):List Int:=wS v.name ++ ah v.kind 1 ++ ah v.len 1 ++ ah v.at' 4
def wR (v:cB):List Int:=ah v.at' 4 ++ wS v.name
def wF (o:aO) (code:List Int):List Int :=
 wS o.name ++ ah o.params.length 1 ++ o.params.flatMap wV ++ ah o.cells 4 ++ ah o.stacks 4 ++ ah o.slots.length 2 ++ o.slots.flatMap cO ++ ah code.length 4 ++ code ++ ah o.refs.length 4 ++ o.refs.flatMap wR
def GA (s:ByteArray):Prop:=s.size<256
def N1 (x:Int):Prop:=0<=x/\x<256
def N4 (x:Int):Prop:=0<=x/\x<4294967296
def OkV (v:aT):Prop:=GA v.name/\N1 v.kind/\N1 v.len
def adw (v:aI):Prop:=GA v.name/\N1 v.kind/\N1 v.len/\N4 v.at'
def OkR (v:cB):Prop:=N4 v.at'/\GA v.name
structure OkF (o:aO) (code:List Int):Prop where
 name:GA o.name
 np:o.params.length<256
 params:∀ v∈o.params,OkV v
 cells:N4 o.cells
 stacks:N4 o.stacks
 ns:o.slots.length<65536
 slots:∀ v∈o.slots,adw v
 nc:code.length<4294967296
 nr:o.refs.length<4294967296
 refs:∀ v∈o.refs,OkR v
def qE (i:Ins):List Int:=[i.a,i.b,i.c,i.d]
def wX:List Int->List Int->List Int
 |c :: cs,x :: xs=>ah x (iJ c) ++ wX cs xs
 |_,_=>[]
def lZ (op:Int):List Int:=cK (ug.getD op.toNat ⟨#[]⟩)
def wI (i:Ins):List Int:=ah i.op 1 ++ wX (lZ i.op) (qE i)
def wA (l:List Ins):List Int:=ah l.length 4 ++ l.flatMap wI
def pX:List Int->Pa (List Int)
 | []=>oJ []
 |c :: cs=>iX (pI (iJ c)) λx=>iX (pX cs) λxs=>oJ (x :: xs)
def sV (op:Int) (xs:List Int):Ins:=⟨op,xs.getD 0 0,xs.getD 1 0,xs.getD 2 0,xs.getD 3 0⟩
def zQ (i:Ins):Pa Ins:=λb=>if i.gF=true then some (i,b)else none
def gK:Pa Ins:=iX (pI 1) λop=>if op<35 then iX (pX (lZ op)) λxs=>zQ (sV op xs)else λ_=>none
def ql (b:List Int):Option (List Ins):=match pI 4 b with
 |none=>none
 |some (n,r)=>if 65536<n then none else match pN gK n.toNat r with
  |some (l,[])=>some l
  |_=>none
theorem Sg {op:Int} (h0:0<=op) (h1:op<35):op=0\/op=1\/op=2\/op=3\/op=4\/op=5\/op=6\/op=7\/op=8\/op=9\/op=10\/op=11\/op=12\/op=13\/op=14\/op=15\/op=16\/op=17\/op=18\/op=19\/op=20\/op=21\/op=22\/op=23\/op=24\/op=25\/op=26\/op=27\/op=28\/op=29\/op=30\/op=31\/op=32\/op=33\/op=34:=by omega
theorem Jg {op:Int} (h0:0<=op) (h1:op<35):((lZ op).length:Int)=kP.getD op.toNat 0/\(lZ op).length<=4:=by
 rcases Sg h0 h1 with rfl|rfl|rfl|rfl|rfl|rfl|rfl|rfl|rfl|rfl|rfl|rfl|rfl|rfl|rfl|rfl|rfl|rfl|rfl|rfl|rfl|rfl|rfl|rfl|rfl|rfl|rfl|rfl|rfl|rfl|rfl|rfl|rfl|rfl|rfl <;> exact⟨rfl,by decide⟩
theorem aaP {b r:List Int} {n:Int} {l:List Ins} (h1:pI 4 b=some (n,r)) (h2:¬ 65536<n) (h3:pN gK n.toNat r=some (l,[])):ql b=some l:=by
 unfold ql
 rw[h1]
 simp only[]
 rw[if_neg h2,h3]
theorem Qu:∀ (cs xs ys:List Int),xs.length=cs.length->wX cs (xs ++ ys)=wX cs xs
 | [],[],ys,_=>by cases ys <;> rfl
 |c :: cs,x :: xs,ys,h=>by
  have:=Qu cs xs ys (by simpa using h)
  simp only[List.cons_append,wX,this]
theorem IY (c:Int):iJ c=1\/iJ c=4\/iJ c=8:=by
 unfold iJ
 split
 · exact .inr (.inl rfl)
 · split
   · exact .inr (.inr rfl)
   · exact .inl rfl
theorem Si:∀ (cs:List Int),Gz (pX cs) (wX cs) (λxs=>xs.length=cs.length/\∀ x∈xs,In64 x)
 | []=>λb x r hb e=>by
  obtain⟨rfl,rfl⟩:=Qt e
  exact⟨rfl,rfl,λx hx=>by cases hx⟩
 |c :: cs=>λb x r hb e=>by
  obtain⟨y,r1,e1,e⟩:=DJ e
  obtain⟨l,r2,e2,e⟩:=DJ e
  obtain⟨rfl,rfl⟩:=Qt e
  have h1:ah y (iJ c) ++ r1=b/\In64 y:=by
   rcases IY c with h|h|h <;> rw[h]at e1 ⊢
   · obtain⟨h1,h2,h3⟩:=Bj 1 (by decide) _ _ _ hb e1
     exact⟨h1,by unfold In64;omega⟩
   · obtain⟨h1,h2,h3⟩:=Bj 4 (by decide) _ _ _ hb e1
     exact⟨h1,by unfold In64;omega⟩
   · exact abJ _ _ _ hb e1
  obtain⟨h1,h2⟩:=h1
  obtain⟨h3,h4,h5⟩:=Si cs _ _ _ (AA hb h1) e2
  refine⟨?_,by simp[h4],λx hx=>(List.mem_cons.1 hx).elim (λe=>e ▸ h2) (h5 x)⟩
  simp only[wX,List.append_assoc,h3,h1]
theorem aaQ:Gz gK wI (λi=>i.gF=true/\Ke i):=by
 intro b x r hb e
 obtain⟨op,r1,e1,e'⟩:=DJ e
 clear e
 obtain⟨rfl,q1⟩:=Bj 1 (by decide) _ _ _ hb e1
 by_cases lD:op<35
 case neg=>rw[if_neg lD]at e';cases e'
 rw[if_pos lD]at e'
 obtain⟨xs,r2,e2,e⟩:=DJ e'
 clear e'
 obtain⟨rfl,q2,q3⟩:=Si _ _ _ _ (AA hb rfl) e2
 unfold zQ at e
 split at e
 case isFalse=>cases e
 rename_i hv
 simp only[Option.some.injEq,Prod.mk.injEq]at e
 obtain⟨rfl,rfl⟩:=e
 have hl:=(Jg q1.1 lD).2
 have hz:In64 0:=by unfold In64;decide
 have hg:∀ k,In64 (xs.getD k 0):=by
  intro k
  rw[List.getD_eq_getElem?_getD]
  rcases Nat.lt_or_ge k xs.length with h|h
  · rw[List.getElem?_eq_getElem h];exact q3 _ (List.getElem_mem _)
  · rw[List.getElem?_eq_none h];exact hz
 refine⟨?_,hv,⟨q1.1,show op<=255 from by omega⟩,hg 0,hg 1,hg 2,hg 3⟩
 have hx:∃ ys,qE (sV op xs)=xs ++ ys:=by
  simp only[sV,qE]
  rw[← q2]at hl
  match xs,hl with
  | [],_=>exact⟨_,rfl⟩
  | [_],_=>exact⟨[0,0,0],rfl⟩
  | [_,_],_=>exact⟨[0,0],rfl⟩
  | [_,_,_],_=>exact⟨[0],rfl⟩
  | [_,_,_,_],_=>exact⟨[],rfl⟩
  |_ :: _ :: _ :: _ :: _ :: _,h=>simp at h
 obtain⟨ys,hy⟩:=hx
 show(ah op 1 ++ wX (lZ op) (qE (sV op xs))) ++ _=_
 rw[hy,Qu _ _ _ q2,List.append_assoc]
theorem Ep:∀ cs xs,(wX cs xs).length<=8 * cs.length
 | [],xs=>by cases xs <;> simp[wX]
 |c :: cs,[]=>by simp[wX]
 |c :: cs,x :: xs=>by
  have:=Ep cs xs
  have hw:=IY c
  simp only[wX,List.length_append,aF,List.length_cons]
  omega
end Go.Proofs.YtadecgbblajifaaGreatDoor
