import Derived.Test.YtadecgbblajifaaGreatDoorA02
import Derived.Deep.AppendSrc
import Derived.Deep.MidRow
import Derived.Deep.Upon
import Derived.Laws.MakeOwn
import Derived.Deep.CutRange
import Derived.Deep.DeepCutAuto
import Derived.Deep.CutBlock
set_option linter.unusedSimpArgs false
set_option linter.unusedVariables false
set_option maxRecDepth 100000
set_option maxHeartbeats 25600000
namespace Go.Proofs.YtadecgbblajifaaGreatDoor
section
open Go.RowKit
def iF:List Int:=[0,2,2,2,2,2,2,2,1,4,2,4,2,2,2,2,2,1,1,1,1,2,1,2,2,1,2,2,2,2,1,1,1,1,0]
def bW (w:World):Prop:=∀ k,k<35->w.cell? ⟨0,k * 2+1,none⟩=some (.int .i64 (iF.getD k 0))
theorem bW.later {w w':World} (h:bW w) (hm:Mv (λ_=>False) w w'):bW w':=λk hk=>by
 have h1:=h k hk;rw[← h1];exact World.cell?_of_block (w:=w) (w':=w') (hm.block _ (World.block_lt_of_cell? w _ h1) (λh=>h))
def unused (n:Int) (i:Ins):Bool:=(decide (0<n) || i.a == 0) && ((decide (1<n) || i.b == 0) && ((decide (2<n) || i.c == 0) && (decide (3<n) || i.d == 0)))
def DI (i:Ins):Bool :=
 if i.op=1\/i.op=2\/i.op=3 then(gB i.a && gB i.b) && i.a != i.b
 else if i.op=7 then gB i.a && gB i.b
 else if i.op=4\/i.op=5\/i.op=6\/i.op=8\/i.op=17\/i.op=18\/i.op=19\/i.op=20 then gB i.a
 else if i.op=9 then((((gB i.a && gB i.b) && gB i.c) && i.a != i.b) && i.a != i.c) && Ff i.d
 else if i.op=10\/i.op=12\/i.op=13\/i.op=14\/i.op=15 then gB i.a && qJ i.b
 else if i.op=11 then(((gB i.a && gB i.b) && i.a != i.b) && qJ i.c) && qJ i.d
 else if i.op=16\/i.op=28\/i.op=29 then qJ i.a && qJ i.b
 else if i.op=21 then(gB i.a && decide (1<=i.b)) && decide (i.b<=23)
 else if i.op=22\/i.op=25\/i.op=30\/i.op=31\/i.op=32\/i.op=33 then Ac i.a
 else if i.op=23\/i.op=24\/i.op=26\/i.op=27 then gB i.a && Ac i.b
 else true
def Ins.bR (i:Ins):Bool:=decide (i.op<35) && (unused (iF.getD i.op.toNat 0) i && DI i)
def fF (n:Int) (i:Ins) (k:Nat):Prop:=(0<k->n<=0->i.a=0)/\(1<k->n<=1->i.b=0)/\(2<k->n<=2->i.c=0)/\(3<k->n<=3->i.d=0)
theorem fF.all {n:Int} {i:Ins} (h:fF n i 4):unused n i=true:=by
 obtain⟨h1,h2,h3,h4⟩:=h;simp only[unused,Bool.and_eq_true,Bool.or_eq_true,decide_eq_true_eq,beq_iff_eq];refine⟨?_,?_,?_,?_⟩ <;> omega
theorem SA {n:Int} {i:Ins} (h:n<=0) (hx:(i.a != 0)=true):unused n i=false:=by
 have h1:¬ 0<n:=by omega
 have h2:(i.a == 0)=false:=by simpa using hx
 simp[unused,h1,h2]
theorem fF.step0 {n:Int} {i:Ins} (h:fF n i 0) (hx:n<=0->i.a=0):fF n i 1:=by
 obtain⟨h1,h2,h3,h4⟩:=h;refine⟨λ_ => ?_,λ_ => ?_,λ_ => ?_,λ_ => ?_⟩ <;> first|exact hx|(exact h1 (by omega))|(exact h2 (by omega))|(exact h3 (by omega))|omega
theorem SB {n:Int} {i:Ins} (h:n<=1) (hx:(i.b != 0)=true):unused n i=false:=by
 have h1:¬ 1<n:=by omega
 have h2:(i.b == 0)=false:=by simpa using hx
 simp[unused,h1,h2]
theorem fF.step1 {n:Int} {i:Ins} (h:fF n i 1) (hx:n<=1->i.b=0):fF n i 2:=by
 obtain⟨h1,h2,h3,h4⟩:=h;refine⟨λ_ => ?_,λ_ => ?_,λ_ => ?_,λ_ => ?_⟩ <;> first|exact hx|(exact h1 (by omega))|(exact h2 (by omega))|(exact h3 (by omega))|omega
theorem SC {n:Int} {i:Ins} (h:n<=2) (hx:(i.c != 0)=true):unused n i=false:=by
 have h1:¬ 2<n:=by omega
 have h2:(i.c == 0)=false:=by simpa using hx
 simp[unused,h1,h2]
theorem fF.step2 {n:Int} {i:Ins} (h:fF n i 2) (hx:n<=2->i.c=0):fF n i 3:=by
 obtain⟨h1,h2,h3,h4⟩:=h;refine⟨λ_ => ?_,λ_ => ?_,λ_ => ?_,λ_ => ?_⟩ <;> first|exact hx|(exact h1 (by omega))|(exact h2 (by omega))|(exact h3 (by omega))|omega
theorem SE {n:Int} {i:Ins} (h:n<=3) (hx:(i.d != 0)=true):unused n i=false:=by
 have h1:¬ 3<n:=by omega
 have h2:(i.d == 0)=false:=by simpa using hx
 simp[unused,h1,h2]
theorem fF.Xn {n:Int} {i:Ins} (h:fF n i 3) (hx:n<=3->i.d=0):fF n i 4:=by
 obtain⟨h1,h2,h3,h4⟩:=h;refine⟨λ_ => ?_,λ_ => ?_,λ_ => ?_,λ_ => ?_⟩ <;> first|exact hx|(exact h1 (by omega))|(exact h2 (by omega))|(exact h3 (by omega))|omega
theorem CO (i:Ins) (w:World) (ht:bW w) (h0:0<=i.op) (h1:i.op<=255):Calls Tryz.prog 83 #[i.val] w λe w'=>e = .returned (.bool i.bR)/\Mv (λ_=>False) w w':=by
 obtain⟨op,a,b,c,d⟩:=i;simp only at h0 h1;obtain⟨o,rfl⟩:∃ o:Nat,op=o:=⟨op.toNat,by omega⟩;have HM:=ł ((Mv.refl (λ_=>False) w).alloc (.cells #[.int .u8 o,.int .i64 a,.int .i64 b,.int .i64 c,.int .i64 d] 69));by_cases hbig:(o:Int)<35
 · have hlt:o<35:=by omega
   have hcell:=ht o hlt;have HV:=ł (show ∀ q:Int,q=o->Ins.bR ⟨q,a,b,c,d⟩=(unused (iF.getD o 0) ⟨o,a,b,c,d⟩ && DI ⟨q,a,b,c,d⟩)from by rintro q rfl;simp[Ins.bR,hbig]);generalize iF.getD o 0=n at *;have hG:0<w.heap.size:=World.block_lt_of_cell? w _ hcell;clear ht;have x0:∀ w,(Instr.index 98 (.agg #[.int .i64 a,.int .i64 b,.int .i64 c,.int .i64 d]) (.int .i64 0)).run Tryz.prog w = .ok (.int .i64 a) w:=λ_=>by kernel_rfl
   have x1:∀ w,(Instr.index 98 (.agg #[.int .i64 a,.int .i64 b,.int .i64 c,.int .i64 d]) (.int .i64 1)).run Tryz.prog w = .ok (.int .i64 b) w:=λ_=>by kernel_rfl
   have x2:∀ w,(Instr.index 98 (.agg #[.int .i64 a,.int .i64 b,.int .i64 c,.int .i64 d]) (.int .i64 2)).run Tryz.prog w = .ok (.int .i64 c) w:=λ_=>by kernel_rfl
   have x3:∀ w,(Instr.index 98 (.agg #[.int .i64 a,.int .i64 b,.int .i64 c,.int .i64 d]) (.int .i64 3)).run Tryz.prog w = .ok (.int .i64 d) w:=λ_=>by kernel_rfl
   go_enter Tryz.func83,Tryz.ntmps83
   go_wp2
   go_loop [17] (λt=>∃ k:Nat,k<=4/\t = .int .i64 k/\Hid (fF n ⟨o,a,b,c,d⟩ k)) (λt=>4 - (intOf t).toNat)
   case atStart=>exact⟨0,by omega,rfl,ł (by simp[fF])⟩
   case round =>
    obtain⟨k,hk,rfl,hu⟩:=hrel;obtain rfl|rfl|rfl|rfl|rfl:k=0\/k=1\/k=2\/k=3\/k=4:=by omega
    · go_wp2
      all_goals first
       |(go_ret;exact⟨aC (by rw[HV.out _ rfl,SA (by assumption) (by assumption)];rfl),HM.out⟩)
       |exact⟨⟨1,by omega,rfl,ł (hu.out.step0 (by simp_all <;> omega))⟩,by simp[intOf]⟩
    · go_wp2
      all_goals first
       |(go_ret;exact⟨aC (by rw[HV.out _ rfl,SB (by assumption) (by assumption)];rfl),HM.out⟩)
       |exact⟨⟨2,by omega,rfl,ł (hu.out.step1 (by simp_all <;> omega))⟩,by simp[intOf]⟩
    · go_wp2
      all_goals first
       |(go_ret;exact⟨aC (by rw[HV.out _ rfl,SC (by assumption) (by assumption)];rfl),HM.out⟩)
       |exact⟨⟨3,by omega,rfl,ł (hu.out.step2 (by simp_all <;> omega))⟩,by simp[intOf]⟩
    · go_wp2
      all_goals first
       |(go_ret;exact⟨aC (by rw[HV.out _ rfl,SE (by assumption) (by assumption)];rfl),HM.out⟩)
       |exact⟨⟨4,by omega,rfl,ł (hu.out.Xn (by simp_all <;> omega))⟩,by simp[intOf]⟩
    · have HU:=ł hu.out.all;clear hu hcell x0 x1 x2 x3;rcases(show o=0\/o=1\/o=2\/o=3\/o=4\/o=5\/o=6\/o=7\/o=8\/o=9\/o=10\/o=11\/o=12\/o=13\/o=14\/o=15\/o=16\/o=17\/o=18\/o=19\/o=20\/o=21\/o=22\/o=23\/o=24\/o=25\/o=26\/o=27\/o=28\/o=29\/o=30\/o=31\/o=32\/o=33\/o=34 by omega)with rfl|rfl|rfl|rfl|rfl|rfl|rfl|rfl|rfl|rfl|rfl|rfl|rfl|rfl|rfl|rfl|rfl|rfl|rfl|rfl|rfl|rfl|rfl|rfl|rfl|rfl|rfl|rfl|rfl|rfl|rfl|rfl|rfl|rfl|rfl
      all_goals
       go_wp2_with (first
        |(go_at_call 122;refine(RQ _ _).mono ?_;rintro e w' ⟨rfl,rfl⟩)
        |(go_at_call 124;refine(Sw _ _).mono ?_;rintro e w' ⟨rfl,rfl⟩)
        |(go_at_call 125;refine(Tu _ _).mono ?_;rintro e w' ⟨rfl,rfl⟩)
        |(go_at_call 123;refine(RU _ _).mono ?_;rintro e w' ⟨rfl,rfl⟩))
       all_goals (go_ret;exact⟨aC (by rw[HV.out _ (by omega),HU.out];simp_all [DI] <;> omega),(Mv.refl _ _).alloc _⟩)
 · have hb2:¬ o<35:=by omega
   have hb3:(35:Int)<=o:=by omega
   have hd1:decide ((35:Int)<=o)=true:=by simpa using hb3
   have hd2:decide ((o:Int)<35)=false:=by simpa using hb3
   go_enter Tryz.func83,Tryz.ntmps83
   go_wp2
   go_ret;exact⟨aC (by simp[Ins.bR];omega),HM.out⟩
abbrev Grow (w w':World):Prop:=Mv (λ_=>False) w w'
def ai {α:Type} (n:Nat) (f:α->List Value) (w:World) (v:Value) (l:List α):Prop :=
 ∃ a cap,v = .slice a l.length cap/\l.length<=cap/\l.length<=9223372036854775807/\∀ (i:Nat) (x:α),l[i]? = some x->∃ b off,a=some ⟨b,off,none⟩/\∀ (j:Nat) (u:Value),(f x)[j]? = some u->w.cell? ⟨b,off+i * n+j,none⟩=some u
section
variable {α:Type} {n:Nat} {f:α->List Value} {w w':World} {v:Value} {l:List α}
theorem ai.form (h:ai n f w v l):∃ a cap,v = .slice a l.length cap/\l.length<=cap/\l.length<=9223372036854775807:=by
 obtain⟨a,cap,h1,h2,h3,_⟩:=h;exact⟨a,cap,h1,h2,h3⟩
theorem ai.later (h:ai n f w v l) (hm:Grow w w'):ai n f w' v l:=by
 obtain⟨a,cap,h1,h2,h3,h4⟩:=h;refine⟨a,cap,h1,h2,h3,λi x hx => ?_⟩;obtain⟨b,off,hb,hc⟩:=h4 i x hx;refine⟨b,off,hb,λj u hu => ?_⟩;have h5:=hc j u hu;rw[← h5];exact World.cell?_of_block (w:=w) (w':=w') (hm.block _ (World.block_lt_of_cell? w _ h5) (λh=>h))
theorem ai.nil (n:Nat) (f:α->List Value) (w:World):ai n f w (.slice none 0 0) []:=⟨none,0,rfl,Nat.le_refl _,by simp,λi x hx=>by simp at hx⟩
theorem ai.at (h:ai n f w v l) {i:Nat} (hi:i<l.length):∃ b off cap,v = .slice (some ⟨b,off,none⟩) l.length cap/\l.length<=cap/\∀ (j:Nat) (u:Value),(f l[i])[j]? = some u->w.cell? ⟨b,off+i * n+j,none⟩=some u:=by
 obtain⟨a,cap,rfl,h2,h3,h4⟩:=h;obtain⟨b,off,rfl,hc⟩:=h4 i _ (List.getElem?_eq_getElem hi);exact⟨b,off,cap,rfl,h2,hc⟩
theorem ai.at' {b off len cap:Nat} (h:ai n f w (.slice (some ⟨b,off,none⟩) len cap) l) {i:Nat} (hi:i<l.length):∀ (j:Nat) (u:Value),(f l[i])[j]? = some u->w.cell? ⟨b,off+i * n+j,none⟩=some u:=by
 obtain⟨b',off',cap',e,_,hc⟩:=h.at hi;simp only[Value.slice.injEq,Option.some.injEq,Addr.mk.injEq,and_true]at e;obtain⟨⟨rfl,rfl⟩,_,_⟩:=e;exact hc
end
structure aL where
 name:ByteArray
 kind:Int
 len:Int
structure aG where
 name:ByteArray
 kind:Int
 len:Int
 at':Int
structure aI where
 at':Int
 name:ByteArray
def aL.cells (v:aL):List Value:=[.string v.name,.int .u8 v.kind,.int .i64 v.len]
def aG.cells (v:aG):List Value:=[.string v.name,.int .u8 v.kind,.int .i64 v.len,.int .i64 v.at']
def aI.cells (v:aI):List Value:=[.int .i64 v.at',.string v.name]
abbrev aL.val (v:aL):Value := .agg #[.string v.name,.int .u8 v.kind,.int .i64 v.len]
structure aA where
 name:ByteArray
 params:List aL
 slots:List aG
 cells:Int
 stacks:Int
 code:List Ins
 refs:List aI
def In64 (x:Int):Prop := -9223372036854775808<=x/\x<=9223372036854775807
def zF (i:Ins):Prop:=(0<=i.op/\i.op<=255)/\In64 i.a/\In64 i.b/\In64 i.c/\In64 i.d
structure vU (o:aA):Prop where
 name:o.name.size<=9223372036854775807
 params:∀ v∈o.params,v.name.size<=9223372036854775807/\In64 v.len
 slots:∀ v∈o.slots,v.name.size<=9223372036854775807/\In64 v.len/\In64 v.at'
 cells:In64 o.cells
 stacks:In64 o.stacks
 code:∀ i∈o.code,zF i
 refs:∀ r∈o.refs,r.name.size<=9223372036854775807/\In64 r.at'
 few:o.slots.length<=4398046511104
structure bX where
 d:aA
 pv:Value
 sv:Value
 cv:Value
 rv:Value
def bX.cells (o:bX):List Value:=[.string o.d.name,o.pv,o.sv,.int .i64 o.d.cells,.int .i64 o.d.stacks,o.cv,o.rv]
abbrev bX.val (o:bX):Value := .agg #[.string o.d.name,o.pv,o.sv,.int .i64 o.d.cells,.int .i64 o.d.stacks,o.cv,o.rv]
structure mF (w:World) (o:bX):Prop where
 ok:vU o.d
 params:ai 3 aL.cells w o.pv o.d.params
 slots:ai 4 aG.cells w o.sv o.d.slots
 code:ai 5 Ins.cells w o.cv o.d.code
 refs:ai 2 aI.cells w o.rv o.d.refs
theorem mF.later {w w':World} {o:bX} (h:mF w o) (hm:Grow w w'):mF w' o:=⟨h.ok,h.params.later hm,h.slots.later hm,h.code.later hm,h.refs.later hm⟩
structure DJ (w:World) (v:Value) (l:List bX):Prop where
 row:ai 7 bX.cells w v l
 each:∀ o∈l,mF w o
theorem DJ.later {w w':World} {v:Value} {l:List bX} (h:DJ w v l) (hm:Grow w w'):DJ w' v l:=⟨h.row.later hm,λo ho=>(h.each o ho).later hm⟩
end
section
open Go.RowKit Go.Instr
def flat {α:Type} (f:α->List Value) (l:List α):List Value:=(l.map f).flatten
theorem Im {α:Type} (f:α->List Value) (a b:List α):flat f (a ++ b)=flat f a ++ flat f b:=by simp[flat]
theorem CZ {α:Type} (f:α->List Value) (n:Nat) (h:∀ x,(f x).length=n):∀ l:List α,(flat f l).length=l.length * n
 | []=>by simp[flat]
 |x :: l=>by
  have:=CZ f n h l;simp only[flat,List.map_cons,List.flatten_cons,List.length_append,h,List.length_cons]at this ⊢;rw[this,Nat.add_mul];omega
theorem za {α:Type} (f:α->List Value) (n:Nat) (h:∀ x,(f x).length=n):∀ (l:List α) (i j:Nat) (hi:i<l.length),j<n->(flat f l)[i * n+j]? = (f l[i])[j]?
 | [],i,j,hi,_=>by simp at hi
 |x :: l,0,j,_,hj=>by
  simp only[flat,List.map_cons,List.flatten_cons,Nat.zero_mul,Nat.zero_add,List.getElem_cons_zero];rw[List.getElem?_append_left (by rw[h];exact hj)]
 |x :: l,i+1,j,hi,hj=>by
  have:=za f n h l i j (by simpa using hi) hj;simp only[flat,List.map_cons,List.flatten_cons,List.getElem_cons_succ]at this ⊢;rw[List.getElem?_append_right (by rw[h,Nat.add_mul];omega),h,show(i+1) * n+j - n=i * n+j by rw[Nat.add_mul];omega];exact this
theorem pY {α:Type} {f:α->List Value} {n e base:Nat} {w:World} {v:Value} {l:List α} (hf:∀ x,(f x).length=n) (h:w.ownsRow base e n v l.length (flat f l)):ai n f w v l:=by
 rcases h.2 with⟨rfl,hl⟩|⟨g,cap,cur,rfl,hb,hg,hnc,hcm,hcs,htake⟩
 · obtain rfl:l=[]:=List.eq_nil_of_length_eq_zero hl;exact ai.nil _ _ _
 · refine⟨_,cap,rfl,hnc,by unfold maxLen at hcm;omega,λi x hx=>⟨g,0,rfl,λj u hu => ?_⟩⟩;have hi:=(List.getElem?_eq_some_iff.1 hx).1;have hj:j<n:=by rw[← hf x];exact(List.getElem?_eq_some_iff.1 hu).1
   have hx':l[i]=x:=by rw[List.getElem?_eq_getElem hi]at hx;simpa using hx
   have h1:=za f n hf l i j hi hj;rw[hx',hu]at h1;have hlt:i * n+j<l.length * n:=by
    have:=Nat.mul_le_mul_right n (show i+1<=l.length from hi);rw[Nat.add_mul]at this;omega
   have h2:cur[i * n+j]? = some u:=by
    rw[← htake,List.getElem?_take,if_pos hlt]at h1
    simpa using h1
   simp only[World.cell?,hg,Option.isSome_none,Bool.false_eq_true,if_false,Nat.zero_add];exact h2
theorem aU {α:Type} {f:α->List Value} {n e base:Nat} {w w':World} {v:Value} {l:List α} {O:Nat->Prop} (h:w.ownsRow base e n v l.length (flat f l)) (hm:Mv O w w') (hO:∀ g,v.ownBlock=some g->¬ O g):w'.ownsRow base e n v l.length (flat f l):=by
 refine⟨h.1,?_⟩;rcases h.2 with h1|⟨g,cap,cur,rfl,hb,hg,rest⟩
 · exact .inl h1
 · exact .inr ⟨g,cap,cur,rfl,hb,by rw[hm.block g (lt_of_block hg) (hO g rfl)];exact hg,rest⟩
theorem jH {α:Type} {f:α->List Value} {n e base:Nat} {w:World} {v:Value} {l:List α} (h:w.ownsRow base e n v l.length (flat f l)):∃ a c,v = .slice a l.length c:=by
 rcases h.2 with⟨rfl,hl⟩|⟨g,cap,cur,rfl,_⟩
 · exact⟨none,0,by rw[hl]⟩
 · exact⟨_,_,rfl⟩
theorem block_setCell {w:World} {p:Addr} {c:Array Value} {t:TypeId} {z:Nat × Nat} (h:w.heap[p.block]? = some (.cells c t z)) (hp:p.spot=none) (u:Value) :
 (w.setCell p u).heap[p.block]? = some (.cells (c.setIfInBounds p.off u) t z):=by
 have hlt:=lt_of_block h;have h':w.heap[p.block] = .cells c t z:=by simpa[Array.getElem?_eq_getElem hlt]using h
 show(w.heap.modify p.block _)[p.block]? = _
 rw[Array.getElem?_eq_getElem (by simpa using hlt),Array.getElem_modify_self,h'];simp[hp]
theorem flat_get {α:Type} (f:α->List Value) (n:Nat) (hn:0<n) (h:∀ x,(f x).length=n) (l:List α) (j:Nat) (u:Value) (hu:(flat f l)[j]? = some u):∃ i r,j=i * n+r/\∃ hi:i<l.length,(f l[i])[r]? = some u:=by
 have hj:j<l.length * n:=by have:=(List.getElem?_eq_some_iff.1 hu).1;rw[CZ f n h]at this;exact this
 have hi:j / n<l.length:=(Nat.div_lt_iff_lt_mul hn).2 hj;have hr:j % n<n:=Nat.mod_lt _ hn;have he:j / n * n+j % n=j:=by rw[Nat.mul_comm];exact Nat.div_add_mod j n
 have h1:=za f n h l (j / n) (j % n) hi hr;rw[he,hu]at h1;exact⟨j / n,j % n,he.symm,hi,h1.symm⟩
theorem ai.qm {α:Type} {n:Nat} {f:α->List Value} {w:World} {b:Nat} {cs:Array Value} {t:TypeId} {fr:Nat × Nat} {l:List α} (hf:∀ x,(f x).length=n) (h:w.heap[b]? = some (.cells cs t fr)) (hl:cs.toList=flat f l) (hn:l.length<=9223372036854775807):ai n f w (.slice (some ⟨b,0,none⟩) l.length l.length) l:=by
 refine⟨_,_,rfl,Nat.le_refl _,hn,λi x hx=>⟨b,0,rfl,λj u hu => ?_⟩⟩;have hi:=(List.getElem?_eq_some_iff.1 hx).1;have hj:j<n:=by rw[← hf x];exact(List.getElem?_eq_some_iff.1 hu).1
 have hx':l[i]=x:=by rw[List.getElem?_eq_getElem hi]at hx;simpa using hx
 have h1:=za f n hf l i j hi hj;rw[hx',hu,← hl]at h1;simp only[World.cell?,h,Option.isSome_none,Bool.false_eq_true,if_false,Nat.zero_add]
 simpa using h1
theorem ai.stay {α:Type} {n:Nat} {f:α->List Value} {w w':World} {v:Value} {l:List α} {O:Nat->Prop} (h:ai n f w v l) (hm:Mv O w w') (hO:∀ g,v.ownBlock=some g->¬ O g):ai n f w' v l:=by
 obtain⟨a,cap,rfl,h2,h3,h4⟩:=h;refine⟨a,cap,rfl,h2,h3,λi x hx => ?_⟩;obtain⟨b,off,rfl,hc⟩:=h4 i x hx;refine⟨b,off,rfl,λj u hu => ?_⟩;have h5:=hc j u hu;rw[← h5];exact World.cell?_of_block (w:=w) (w':=w') (hm.block _ (World.block_lt_of_cell? w _ h5) (hO b (by simp[Value.ownBlock])))
theorem Sn {α β:Type} {f:α->List Value} {h:β->List Value} {n m e e' base base':Nat} {w:World} {v v':Value} {l:List α} {l':List β} (h1:w.ownsRow base e n v l.length (flat f l)) (h2:w.ownsRow base' e' m v' l'.length (flat h l')) (he:e≠e'):∀ g,v.ownBlock=some g->¬ v'.ownBlock=some g:=by
 intro g hg hg';rcases h1.2 with⟨rfl,_⟩|⟨g1,c1,u1,rfl,_,hb1,_⟩
 · simp[Value.ownBlock]at hg
 · rcases h2.2 with⟨rfl,_⟩|⟨g2,c2,u2,rfl,_,hb2,_⟩
   · simp[Value.ownBlock]at hg'
   · simp[Value.ownBlock]at hg hg';subst hg hg';rw[hb1]at hb2;simp only[Option.some.injEq,Obj.cells.injEq]at hb2;exact he hb2.2.1
theorem SF {w:World} {b:Nat} {x:Obj} (h:w.heap[b]? = some x) (o:Obj):(w.alloc o).heap[b]? = some x:=by
 have hb:b<w.heap.size:=(Array.getElem?_eq_some_iff.1 h).1;rw[Below.heap_alloc _ _ _ hb];exact h
theorem run_append_nothing {P:Program} (w:World) (t ty e:TypeId) (i:TypeInfo) (ht:P.underlying t=some (.slice e)) (hi:P.info? e=some i) (a:Option Addr) (n cap c:Nat) (hn:n<=cap) :
 (Builtin.append_ #[t,t] ty #[.slice a n cap,.slice none 0 c]).run P w = .ok (.slice a n cap) w:=by
 have hf:=run_firstCells_none (P:=P) w i.size 0 0 c;cases a with
 |none=>simp[Builtin.append_,run_underlying ht,sizeOf,typeInfo,hi,Builtin.lenOf,hn,hf]
 |some a=>simp[Builtin.append_,run_underlying ht,sizeOf,typeInfo,hi,Builtin.lenOf,hn,hf,storeCells]
structure Elem (P:Program) (t e:TypeId) (n bytes:Nat):Prop where
 ht:P.underlying t=some (.slice e)
 hi:∃ i z,P.info? e=some i/\i.zero=some z/\i.size=n/\i.bytes=bytes/\z.cells.size=n
 hn:0<n
 hb:bytes<=1000
theorem Elem.of {P:Program} {t e:TypeId} {n bytes:Nat} {z:Value} (ht:P.underlying t=some (.slice e)) (h:(P.info? e).map (λi=>(i.zero,i.size,i.bytes))=some (some z,n,bytes)) (hz:z.cells.size=n) (hn:0<n) (hb:bytes<=1000):Elem P t e n bytes:=by
 obtain⟨i0,hi,hz0,hz1,hz2⟩:=info_parts h;exact⟨ht,⟨i0,z,hi,hz0,hz1,hz2,hz⟩,hn,hb⟩
section
variable {P:Program} {t e:TypeId} {n bytes:Nat} {α:Type} {f:α->List Value}
theorem nD (E:Elem P t e n bytes) (hf:∀ x,(f x).length=n) (v s:Value) (xs l:List α) (base:Nat) (w:World) (hrow:w.ownsRow base e n v xs.length (flat f xs)) (hs:ai n f w s l) (h1:∀ x∈l,∀ u∈f x,u.oneCell'=true) (hb:base<=w.heap.size) (hlen:xs.length+l.length<=1000000) :
 ∃ a' c' w2,(sO P t t v s w/\oh P t t v s w = .slice a' (xs.length+l.length) c'/\appW P t t v s w=w2) /\
  w2.ownsRow base e n (.slice a' (xs.length+l.length) c') (xs ++ l).length (flat f (xs ++ l))/\Mv (λb=>v.ownBlock=some b) w w2/\(∀ g,(Value.slice a' (xs.length+l.length) c').ownBlock=some g->v.ownBlock=some g\/w.heap.size<=g):=by
 obtain⟨i,z,hi,hz,hsz,hby,hzc⟩:=E.hi;obtain⟨sa,sc,rfl,hsc,hsl,hcell⟩:=hs;cases sa with
 |none =>
  obtain rfl:l=[]:=by
   cases l with
   |nil=>rfl
   |cons x l=>obtain⟨b,off,e,_⟩:=hcell 0 x rfl;cases e
  obtain⟨va,vc,hv⟩:=jH hrow;have hcap:xs.length<=vc:=by
   rcases hrow.2 with⟨e1,h0⟩|⟨g,cap,cur,e1,hb1,hg,hnc,_⟩
   · rw[hv]at e1;simp at e1;omega
   · rw[hv]at e1;simp at e1;omega
  subst hv;have hr:=run_append_nothing w t t e i E.ht hi va xs.length vc sc hcap;obtain⟨hok,hv,hw⟩:=DF hr;refine⟨va,vc,w,⟨hok,by simpa using hv,hw⟩,by simpa using hrow,Mv.refl _ _,λg hg => .inl (by simpa using hg)⟩
 |some a =>
  have hnews:∀ j u,(flat f l)[j]? = some u->w.cell? (a.add j)=some u:=λj u hu=>by
   obtain⟨i',r,rfl,hi',hu⟩:=flat_get _ n E.hn hf l j u hu;obtain⟨b,off,e1,hc⟩:=hcell i' _ (List.getElem?_eq_getElem hi');simp only[Option.some.injEq]at e1;subst e1;have:=hc r u hu;have e2:(⟨b,off,none⟩:Addr).add (i' * n+r)=⟨b,off+i' * n+r,none⟩:=by unfold Addr.add;split <;> simp_all [Nat.add_assoc]
   rw[e2];exact this
  have Ye:(xs.length+l.length) * bytes<=140737488355328:=by
   have:=Nat.mul_le_mul hlen E.hb;omega
  obtain⟨v',w2,hr,hown1,hgrow,_,hnew⟩:=Hy (P:=P) w base t t e i z n bytes E.ht hi hz hsz hby hzc E.hn v _ _ hrow a l.length sc (flat f l) (CZ _ n hf l) hnews
   (λu hu=>by
    simp only[flat,List.mem_flatten,List.mem_map]at hu;obtain⟨_,⟨o,ho,rfl⟩,hu⟩:=hu;exact h1 o ho u hu)
   (by unfold maxLen;omega) Ye hb
  have hform:∃ a' c',v' = .slice a' (xs.length+l.length) c':=by
   rcases hown1.2 with⟨rfl,h0⟩|⟨g,cap,cur,rfl,_⟩
   · exact⟨none,0,by rw[h0]⟩
   · exact⟨_,_,rfl⟩
  obtain⟨a',c',rfl⟩:=hform;obtain⟨hok,hv,hw2⟩:=DF hr;refine⟨a',c',w2,⟨hok,hv,hw2⟩,?_,(Mv.refl _ _).grown hgrow (λk hk => .inl hk),λg hg=>hnew g hg⟩;rw[Im,List.length_append];exact hown1
end
section
variable {P:Program} {t e:TypeId} {n bytes:Nat} {α:Type} {f:α->List Value}
def Gm (n:Nat) (f:α->List Value) (w:World) (base:Nat) (v:Value) (l:List α):Prop :=
 ai n f w v l/\∃ b off cap,v = .slice (some ⟨b,off,none⟩) l.length cap/\(base<=b/\b<w.heap.size)/\l.length<=cap /\
  (∀ j,j<cap * n->(w.cell? ⟨b,off+j,none⟩).isSome=true)/\∀ j,w.frozen? ⟨b,j,none⟩=false
theorem Ry {w w':World} {b:Nat} (h:w'.heap[b]? = w.heap[b]?) (j:Nat):w'.frozen? ⟨b,j,none⟩=w.frozen? ⟨b,j,none⟩:=by simp[World.frozen?,h]
theorem Gm.keep {w w':World} {base:Nat} {v:Value} {l:List α} {O:Nat->Prop} (h:Gm n f w base v l) (hm:Mv O w w') (hO:∀ g,v.ownBlock=some g->¬ O g):Gm n f w' base v l:=by
 obtain⟨hr,b,off,cap,rfl,⟨hb,hl⟩,hc,hs,hz⟩:=h;have hbk:=hm.block b hl (hO b rfl);refine⟨?_,b,off,cap,rfl,⟨hb,Nat.lt_of_lt_of_le hl hm.size⟩,hc,λj hj => ?_,λj => ?_⟩
 · obtain⟨a,cap',e1,h2,h3,h4⟩:=hr;refine⟨a,cap',e1,h2,h3,λi x hx => ?_⟩;obtain⟨b',off',hb',hc'⟩:=h4 i x hx;refine⟨b',off',hb',λj u hu => ?_⟩;subst hb';simp only[Value.slice.injEq,Option.some.injEq,Addr.mk.injEq,and_true]at e1;obtain⟨⟨rfl,rfl⟩,-⟩:=e1;rw[← hc' j u hu];exact World.cell?_of_block hbk
 · rw[World.cell?_of_block (w:=w) (w':=w') (a:=⟨b,off+j,none⟩) hbk];exact hs j hj
 · rw[Ry hbk];exact hz j
end
def jM (w:World) (bb:Nat) (ty:TypeId) (B:List Bool):Prop:=w.heap[bb]? = some (.cells (B.map Value.bool).toArray ty (0,0))
theorem jM.keep {w w':World} {bb:Nat} {ty:TypeId} {B:List Bool} (h:jM w bb ty B) (hw:w'.heap[bb]? = w.heap[bb]?):jM w' bb ty B:=by unfold jM;rw[hw];exact h
theorem jM.cell {w:World} {bb:Nat} {ty:TypeId} {B:List Bool} (h:jM w bb ty B) {j:Nat} (hj:j<B.length):w.cell? ⟨bb,j,none⟩=some (.bool B[j]):=by
 unfold jM at h;simp[World.cell?,h,hj]
theorem jM.set {w:World} {bb:Nat} {ty:TypeId} {B:List Bool} (h:jM w bb ty B) (j:Nat) (v:Bool):jM (w.setCell ⟨bb,j,none⟩ (.bool v)) bb ty (B.set j v):=by
 unfold jM at h ⊢;have:=block_setCell (p:=⟨bb,j,none⟩) h rfl (.bool v);rw[this];simp[List.map_set]
theorem aD {w w':World} {b:Nat} {x:Obj} (h:w.heap[b]? = some x) (hm:Grow w w'):w'.heap[b]? = some x:=by rw[hm.block b (lt_of_block h) (λe=>e)];exact h
theorem a2 (w : World) (A B : Obj) : RowKit.Hid (((w.alloc A).alloc B).heap[w.heap.size]? = some A) /\ RowKit.Hid (((w.alloc A).alloc B).heap[w.heap.size + 1]? = some B) /\ RowKit.Hid (Grow w ((w.alloc A).alloc B)) := ⟨ł (SF (heap_alloc_new w _) _), ł (by have := heap_alloc_new (w.alloc A) B; rwa[World.size_alloc]at this), ł (((Mv.refl _ w).alloc _).alloc _)⟩
inductive Tree where
 |mk (kind num:Int) (name:ByteArray) (kids:List Tree)
namespace Tree
def kind:Tree->Int | .mk k _ _ _=>k
def num:Tree->Int | .mk _ n _ _=>n
def name:Tree->ByteArray | .mk _ _ s _=>s
def kids:Tree->List Tree | .mk _ _ _ l=>l
end Tree
inductive cO where
 |mk (kind num:Int) (name:ByteArray) (kv:Value) (kids:List cO)
def cO.cells:cO->List Value
 |.mk k n s kv _=>[.int .u8 k,.int .i64 n,.string s,kv]
def cO.kids:cO->List cO
 |.mk _ _ _ _ l=>l
def cO.val:cO->Value
 |.mk k n s kv _ => .agg #[.int .u8 k,.int .i64 n,.string s,kv]
mutual
def cO.t:cO->Tree
 |.mk k n s _ l => .mk k n s (cO.ts l)
def cO.ts:List cO->List Tree
 | []=>[]
 |x :: l=>x.t :: cO.ts l
end
inductive j5 (w:World):cO->Prop
 |mk {k n:Int} {s:ByteArray} {kv:Value} {kids:List cO} (hk:0<=k/\k<=255) (hn:In64 n) (hs:s.size<=9223372036854775807) (row:ai 4 cO.cells w kv kids) (each:∀ x∈kids,j5 w x):j5 w (.mk k n s kv kids)
theorem j5.later {w w':World} {x:cO} (h:j5 w x) (hm:Grow w w'):j5 w' x:=by
 induction h with
 |mk hk hn hs row _ ih=>exact .mk hk hn hs (row.later hm) ih
theorem j5.row {w:World} {k n:Int} {s:ByteArray} {kv:Value} {kids:List cO} (h:j5 w (.mk k n s kv kids)):(0<=k/\k<=255)/\In64 n/\s.size<=9223372036854775807/\ai 4 cO.cells w kv kids/\∀ x∈kids,j5 w x:=by
 cases h with
 |mk hk hn hs row each=>exact⟨hk,hn,hs,row,each⟩
def Ei (w:World) (b:Bool) (e:Ending) (w':World):Prop:=e = .returned (.bool b)/\Grow w w'
theorem SG {w:World} {X:Nat} {c0 c1 c2 c3:Value} {t:TypeId} (h:w.heap[X]? = some (.cells #[c0,c1,c2,c3] t (0,0))):w.cell? ⟨X,0,none⟩=some c0/\w.cell? ⟨X,1,none⟩=some c1/\w.cell? ⟨X,2,none⟩=some c2/\w.cell? ⟨X,3,none⟩=some c3:=by
 simp[World.cell?,h]
theorem j5.form {w:World} {k n:Int} {s:ByteArray} {kv:Value} {l:List cO} (h:j5 w (.mk k n s kv l)):∃ a cap,kv = .slice a l.length cap/\l.length<=cap/\l.length<=9223372036854775807:=h.row.2.2.2.1.form
structure jN where
 slots:List aG
 cells:Int
 stacks:Int
abbrev aG.val (s:aG):Value := .agg #[.string s.name,.int .u8 s.kind,.int .i64 s.len,.int .i64 s.at']
structure si (w:World) (sv:Value) (f:jN):Prop where
 row:ai 4 aG.cells w sv f.slots
theorem si.later {w w':World} {sv:Value} {f:jN} (h:si w sv f) (hm:Grow w w'):si w' sv f:=⟨h.row.later hm⟩
theorem Yf (a b:ByteArray):(a.toList == b.toList)=(a == b):=by
 by_cases h:a=b
 · subst h;simp
 · have h2:(a == b)=false:=by simpa using h
   rw[h2];rw[beq_eq_false_iff_ne];intro e;exact h (by
    cases a with|mk x=>cases b with|mk y =>
    rw[ByteArray.toList_eq,ByteArray.toList_eq]at e;simp at e;rw[e])
theorem Nn {w:World} {X:Nat} {a b c d:Value} {t:TypeId} (h:w.heap[X]? = some (.cells #[a,b,c,d] t (0,0))) (p q r s:Value) :
 ((((w.setCell ⟨X,0,none⟩ p).setCell ⟨X,1,none⟩ q).setCell ⟨X,2,none⟩ r).setCell ⟨X,3,none⟩ s).heap[X]? = some (.cells #[p,q,r,s] t (0,0))/\Mv (λb=>b=X) w ((((w.setCell ⟨X,0,none⟩ p).setCell ⟨X,1,none⟩ q).setCell ⟨X,2,none⟩ r).setCell ⟨X,3,none⟩ s):=by
 constructor
 · have h1:=block_setCell (p:=⟨X,0,none⟩) h rfl p;have h2:=block_setCell (p:=⟨X,1,none⟩) h1 rfl q;have h3:=block_setCell (p:=⟨X,2,none⟩) h2 rfl r;have h4:=block_setCell (p:=⟨X,3,none⟩) h3 rfl s
   simpa using h4
 · exact((((Mv.refl (λb=>b=X) w).setCell (p:=⟨X,0,none⟩) (.inl rfl) _).setCell (p:=⟨X,1,none⟩) (.inl rfl) _).setCell (p:=⟨X,2,none⟩) (.inl rfl) _).setCell (p:=⟨X,3,none⟩) (.inl rfl) _
theorem bC {w:World} {X:Nat} {c:Array Value} {t:TypeId} (h:w.heap[X]? = some (.cells c t (0,0))) (i:Nat):w.frozen? ⟨X,i,none⟩=false:=by simp[World.frozen?,h]
attribute [local go_sem ↓] jG
structure Tk where
 kind:Int
 text:ByteArray
 pos:Int
def Tk.cells (t:Tk):List Value:=[.int .u8 t.kind,.string t.text,.int .i64 t.pos]
theorem dw {a b c:World} (h:Grow a b) (k:Grow b c):Grow a c:=Mv.trans h k (λ_ e=>e.elim)
theorem eT {α:Type} {f:α->List Value} {n e base:Nat} {w:World} {v:Value} {l:List α} (h:w.ownsRow base e n v l.length (flat f l)):∀ b,v.ownBlock=some b->base<=b/\∃ cs z,w.heap[b]? = some (.cells cs e z):=by
 intro b hb;rcases h.2 with⟨rfl,_⟩|⟨g',cap,cur,rfl,hg',hg,_⟩
 · simp[Value.ownBlock]at hb
 · simp[Value.ownBlock]at hb;subst hb;exact⟨hg',cur,_,hg⟩
end
end Go.Proofs.YtadecgbblajifaaGreatDoor
