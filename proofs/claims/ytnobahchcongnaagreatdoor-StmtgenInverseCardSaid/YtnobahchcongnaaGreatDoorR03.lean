import Derived.Test.YtnobahchcongnaaGreatDoorR02
import Derived.Shelf.Small.Bits
import Derived.Shelf.Small.Strs
import Derived.Shelf.Small.Wraps
import Derived.Shelf.Strconv.Itoa0
import Derived.Shelf.Strings.Search1
import Derived.Shelf.Strings.Prefix
import Derived.Test.YtnobahchcongnaaGreatDoorProg
set_option linter.unusedSimpArgs false
set_option linter.unusedVariables false
set_option linter.unusedSectionVars false
set_option maxRecDepth 100000
set_option maxHeartbeats 25600000
namespace Go.Proofs.YtnobahchcongnaaGreatDoor
section
open Go.RowKit
def mP:List Int:=[0,2,2,2,2,2,2,2,1,4,2,4,2,2,2,2,2,1,1,1,1,2,1,2,2,1,2,2,2,2,1,1,1,1,0]
def qH (w:World):Prop:=∀ k,k<35->w.cell? ⟨0,k * 2+1,none⟩=some (.int .i64 (mP.getD k 0))
theorem qH.later {w w':World} (h:qH w) (hm:Mv (λ_=>False) w w'):qH w':=λk hk=>by
 have h1:=h k hk;rw[← h1];exact World.cell?_of_block (w:=w) (w':=w') (hm.block _ (World.block_lt_of_cell? w _ h1) (λh=>h))
def unused (n:Int) (i:Ins):Bool:=(decide (0<n) || i.a == 0) && ((decide (1<n) || i.b == 0) && ((decide (2<n) || i.c == 0) && (decide (3<n) || i.d == 0)))
def o7 (i:Ins):Bool :=
 if i.op=1\/i.op=2\/i.op=3 then(jk i.a && jk i.b) && i.a != i.b
 else if i.op=7 then jk i.a && jk i.b
 else if i.op=4\/i.op=5\/i.op=6\/i.op=8\/i.op=17\/i.op=18\/i.op=19\/i.op=20 then jk i.a
 else if i.op=9 then((((jk i.a && jk i.b) && jk i.c) && i.a != i.b) && i.a != i.c) && Iw i.d
 else if i.op=10\/i.op=12\/i.op=13\/i.op=14\/i.op=15 then jk i.a && nC i.b
 else if i.op=11 then(((jk i.a && jk i.b) && i.a != i.b) && nC i.c) && nC i.d
 else if i.op=16\/i.op=28\/i.op=29 then nC i.a && nC i.b
 else if i.op=21 then(jk i.a && decide (1<=i.b)) && decide (i.b<=23)
 else if i.op=22\/i.op=25\/i.op=30\/i.op=31\/i.op=32\/i.op=33 then Co i.a
 else if i.op=23\/i.op=24\/i.op=26\/i.op=27 then jk i.a && Co i.b
 else true
def Ins.gT (i:Ins):Bool:=decide (i.op<35) && (unused (mP.getD i.op.toNat 0) i && o7 i)
def nD (n:Int) (i:Ins) (k:Nat):Prop:=(0<k->n<=0->i.a=0)/\(1<k->n<=1->i.b=0)/\(2<k->n<=2->i.c=0)/\(3<k->n<=3->i.d=0)
theorem nD.all {n:Int} {i:Ins} (h:nD n i 4):unused n i=true:=by
 obtain⟨h1,h2,h3,h4⟩:=h;simp only[unused,Bool.and_eq_true,Bool.or_eq_true,decide_eq_true_eq,beq_iff_eq];refine⟨?_,?_,?_,?_⟩ <;> omega
theorem Yg {n:Int} {i:Ins} (h:n<=0) (hx:(i.a != 0)=true):unused n i=false:=by
 have h1:¬ 0<n:=by omega
 have h2:(i.a == 0)=false:=by simpa using hx
 simp[unused,h1,h2]
theorem nD.step0 {n:Int} {i:Ins} (h:nD n i 0) (hx:n<=0->i.a=0):nD n i 1:=by
 obtain⟨h1,h2,h3,h4⟩:=h;refine⟨λ_ => ?_,λ_ => ?_,λ_ => ?_,λ_ => ?_⟩ <;> first|exact hx|(exact h1 (by omega))|(exact h2 (by omega))|(exact h3 (by omega))|omega
theorem Yh {n:Int} {i:Ins} (h:n<=1) (hx:(i.b != 0)=true):unused n i=false:=by
 have h1:¬ 1<n:=by omega
 have h2:(i.b == 0)=false:=by simpa using hx
 simp[unused,h1,h2]
theorem nD.step1 {n:Int} {i:Ins} (h:nD n i 1) (hx:n<=1->i.b=0):nD n i 2:=by
 obtain⟨h1,h2,h3,h4⟩:=h;refine⟨λ_ => ?_,λ_ => ?_,λ_ => ?_,λ_ => ?_⟩ <;> first|exact hx|(exact h1 (by omega))|(exact h2 (by omega))|(exact h3 (by omega))|omega
theorem Yi {n:Int} {i:Ins} (h:n<=2) (hx:(i.c != 0)=true):unused n i=false:=by
 have h1:¬ 2<n:=by omega
 have h2:(i.c == 0)=false:=by simpa using hx
 simp[unused,h1,h2]
theorem nD.step2 {n:Int} {i:Ins} (h:nD n i 2) (hx:n<=2->i.c=0):nD n i 3:=by
 obtain⟨h1,h2,h3,h4⟩:=h;refine⟨λ_ => ?_,λ_ => ?_,λ_ => ?_,λ_ => ?_⟩ <;> first|exact hx|(exact h1 (by omega))|(exact h2 (by omega))|(exact h3 (by omega))|omega
theorem Yj {n:Int} {i:Ins} (h:n<=3) (hx:(i.d != 0)=true):unused n i=false:=by
 have h1:¬ 3<n:=by omega
 have h2:(i.d == 0)=false:=by simpa using hx
 simp[unused,h1,h2]
theorem nD.aaY {n:Int} {i:Ins} (h:nD n i 3) (hx:n<=3->i.d=0):nD n i 4:=by
 obtain⟨h1,h2,h3,h4⟩:=h;refine⟨λ_ => ?_,λ_ => ?_,λ_ => ?_,λ_ => ?_⟩ <;> first|exact hx|(exact h1 (by omega))|(exact h2 (by omega))|(exact h3 (by omega))|omega
theorem Zc (i:Ins) (w:World) (ht:qH w) (h0:0<=i.op) (h1:i.op<=255):Calls Tryz.prog 30 #[i.val] w λe w'=>e = .returned (.bool i.gT)/\Mv (λ_=>False) w w':=by
 obtain⟨op,a,b,c,d⟩:=i;simp only at h0 h1;obtain⟨o,rfl⟩:∃ o:Nat,op=o:=⟨op.toNat,by omega⟩;have HM:=ł ((Mv.refl (λ_=>False) w).alloc (.cells #[.int .u8 o,.int .i64 a,.int .i64 b,.int .i64 c,.int .i64 d] 57));by_cases hbig:(o:Int)<35
 · have hlt:o<35:=by omega
   have hcell:=ht o hlt;have HV:=ł (show ∀ q:Int,q=o->Ins.gT ⟨q,a,b,c,d⟩=(unused (mP.getD o 0) ⟨o,a,b,c,d⟩ && o7 ⟨q,a,b,c,d⟩)from by rintro q rfl;simp[Ins.gT,hbig]);generalize mP.getD o 0=n at *;have hG:0<w.heap.size:=World.block_lt_of_cell? w _ hcell;clear ht;have x0:∀ w,(Instr.index 113 (.agg #[.int .i64 a,.int .i64 b,.int .i64 c,.int .i64 d]) (.int .i64 0)).run Tryz.prog w = .ok (.int .i64 a) w:=λ_=>by kernel_rfl
   have x1:∀ w,(Instr.index 113 (.agg #[.int .i64 a,.int .i64 b,.int .i64 c,.int .i64 d]) (.int .i64 1)).run Tryz.prog w = .ok (.int .i64 b) w:=λ_=>by kernel_rfl
   have x2:∀ w,(Instr.index 113 (.agg #[.int .i64 a,.int .i64 b,.int .i64 c,.int .i64 d]) (.int .i64 2)).run Tryz.prog w = .ok (.int .i64 c) w:=λ_=>by kernel_rfl
   have x3:∀ w,(Instr.index 113 (.agg #[.int .i64 a,.int .i64 b,.int .i64 c,.int .i64 d]) (.int .i64 3)).run Tryz.prog w = .ok (.int .i64 d) w:=λ_=>by kernel_rfl
   go_enter Tryz.func30,Tryz.ntmps30
   go_wp2
   go_loop [17] (λt=>∃ k:Nat,k<=4/\t = .int .i64 k/\Hid (nD n ⟨o,a,b,c,d⟩ k)) (λt=>4 - (intOf t).toNat)
   case atStart=>exact⟨0,by omega,rfl,ł (by simp[nD])⟩
   case round =>
    obtain⟨k,hk,rfl,hu⟩:=hrel;obtain rfl|rfl|rfl|rfl|rfl:k=0\/k=1\/k=2\/k=3\/k=4:=by omega
    · go_wp2
      all_goals first
       |(go_ret;exact⟨aK (by rw[HV.out _ rfl,Yg (by assumption) (by assumption)];rfl),HM.out⟩)
       |exact⟨⟨1,by omega,rfl,ł (hu.out.step0 (by simp_all <;> omega))⟩,by simp[intOf]⟩
    · go_wp2
      all_goals first
       |(go_ret;exact⟨aK (by rw[HV.out _ rfl,Yh (by assumption) (by assumption)];rfl),HM.out⟩)
       |exact⟨⟨2,by omega,rfl,ł (hu.out.step1 (by simp_all <;> omega))⟩,by simp[intOf]⟩
    · go_wp2
      all_goals first
       |(go_ret;exact⟨aK (by rw[HV.out _ rfl,Yi (by assumption) (by assumption)];rfl),HM.out⟩)
       |exact⟨⟨3,by omega,rfl,ł (hu.out.step2 (by simp_all <;> omega))⟩,by simp[intOf]⟩
    · go_wp2
      all_goals first
       |(go_ret;exact⟨aK (by rw[HV.out _ rfl,Yj (by assumption) (by assumption)];rfl),HM.out⟩)
       |exact⟨⟨4,by omega,rfl,ł (hu.out.aaY (by simp_all <;> omega))⟩,by simp[intOf]⟩
    · have HU:=ł hu.out.all;clear hu hcell x0 x1 x2 x3;rcases(show o=0\/o=1\/o=2\/o=3\/o=4\/o=5\/o=6\/o=7\/o=8\/o=9\/o=10\/o=11\/o=12\/o=13\/o=14\/o=15\/o=16\/o=17\/o=18\/o=19\/o=20\/o=21\/o=22\/o=23\/o=24\/o=25\/o=26\/o=27\/o=28\/o=29\/o=30\/o=31\/o=32\/o=33\/o=34 by omega)with rfl|rfl|rfl|rfl|rfl|rfl|rfl|rfl|rfl|rfl|rfl|rfl|rfl|rfl|rfl|rfl|rfl|rfl|rfl|rfl|rfl|rfl|rfl|rfl|rfl|rfl|rfl|rfl|rfl|rfl|rfl|rfl|rfl|rfl|rfl
      all_goals
       go_wp2_with (first
        |(go_at_call 51;refine(Xo _ _).mono ?_;rintro e w' ⟨rfl,rfl⟩)
        |(go_at_call 53;refine(Yf _ _).mono ?_;rintro e w' ⟨rfl,rfl⟩)
        |(go_at_call 54;refine(Zb _ _).mono ?_;rintro e w' ⟨rfl,rfl⟩)
        |(go_at_call 52;refine(Xp _ _).mono ?_;rintro e w' ⟨rfl,rfl⟩))
       all_goals (go_ret;exact⟨aK (by rw[HV.out _ (by omega),HU.out];simp_all [o7] <;> omega),(Mv.refl _ _).alloc _⟩)
 · have hb2:¬ o<35:=by omega
   have hb3:(35:Int)<=o:=by omega
   have hd1:decide ((35:Int)<=o)=true:=by simpa using hb3
   have hd2:decide ((o:Int)<35)=false:=by simpa using hb3
   go_enter Tryz.func30,Tryz.ntmps30
   go_wp2
   go_ret;exact⟨aK (by simp[Ins.gT];omega),HM.out⟩
end
section
open Go.RowKit Go.Instr
def qL (w:World) (r:Nat) (o:Obj):World := { w with heap:=w.heap.setIfInBounds r o }
theorem bytes_beq (a b:ByteArray):(a == b)=decide (a=b):=by
 cases a with|mk x=>cases b with|mk y =>
 show(x == y)=_
 by_cases h:x=y
 · subst h;simp
 · have h1:(x == y)=false:=by simpa using h
   have h2:¬ (⟨x⟩:ByteArray)=⟨y⟩:=λe=>h (by simpa using congrArg ByteArray.data e);simp[h1,h2]
instance:LawfulBEq ByteArray where
 eq_of_beq:=by intro a b h;rw[bytes_beq]at h;exact of_decide_eq_true h
 rfl:=by intro a;rw[bytes_beq];simp
theorem Ky {P:Program} {w:World} {r:Nat} {es:Array MapEntry} {c:Nat} (hb:w.heap[r]? = some (.map es c)):(getObj r).run P w = .ok (.map es c) w:=by simp[getObj,Sem.run,hb]
theorem Zd {P:Program} {w:World} {r:Nat} {es:Array MapEntry} {c:Nat} (o':Obj) (hb:w.heap[r]? = some (.map es c)):(setObj r o').run P w = .ok () (qL w r o'):=by simp[setObj,Sem.run,hb,qL]
structure KeyLaw (P:Program) (K:TypeId) {κ:Type} [BEq κ] [LawfulBEq κ] (enc:κ->Value) (desc:TypeDesc):Prop where
 hu:P.underlying K=some desc
 same:∀ a b:κ,sameNow desc (enc a) (enc b)=some (a == b)
 check:∀ (e:Bool) (n:Nat) (a:κ) (w:World),(checkKey e (n+1) K (enc a)).run P w = .ok () w
 bits:∀ a:κ,sameBits 10000 (enc a) (enc a)=true
theorem aaa {P:Program} {K:TypeId} (hu:P.underlying K=some .string):KeyLaw P K Value.string .string:=by
 refine⟨hu,λa b=>rfl,λe n a w => ?_,λa=>by simp[sameBits]⟩;simp[checkKey,run_underlying hu]
theorem aab {P:Program} {K:TypeId} (hu:P.underlying K=some (.int .i64)):KeyLaw P K (Value.int .i64) (.int .i64):=by
 refine⟨hu,λa b=>by simp[sameNow],λe n a w => ?_,λa=>by simp[sameBits]⟩;simp[checkKey,run_underlying hu]
section
variable {κ:Type} [BEq κ] [LawfulBEq κ]
def gJ (k:κ):List (κ × Value)->Nat->Option (Nat × Value)
 | [],_=>none
 |(a,x) :: l,i=>if k == a then some (i,x)else gJ k l (i+1)
def sD (l:List (κ × Value)) (k:κ):Option Value:=(gJ k l 0).map (·.2)
def jl (k:κ) (v:Value):List (κ × Value)->List (κ × Value)
 | []=>[(k,v)]
 |(a,x) :: l=>if k == a then(k,v) :: l else(a,x) :: jl k v l
def kV (enc:κ->Value) (l:List (κ × Value)) (es:List MapEntry):Prop:=es.map (λe=>(e.key,e.val))=l.map (λp=>(enc p.1,p.2))
theorem kV.cons {enc:κ->Value} {p:κ × Value} {l:List (κ × Value)} {es:List MapEntry} (h:kV enc (p :: l) es):∃ e r,es=e :: r/\e.key=enc p.1/\e.val=p.2/\kV enc l r:=by
 cases es with
 |nil=>simp[kV]at h
 |cons e r=>simp[kV]at h;exact⟨e,r,rfl,h.1.1,h.1.2,by simpa[kV]using h.2⟩
theorem QX {P:Program} {K:TypeId} {enc:κ->Value} {desc:TypeDesc} (L:KeyLaw P K enc desc) (k:κ):∀ (l:List (κ × Value)) (es:List MapEntry) (i:Nat),kV enc l es->findNow desc (enc k) es i=some (gJ k l i)
 | [],es,i,h=>by
  have:es=[]:=by simpa[kV]using h
  subst this;rfl
 |(a,x) :: l,es,i,h=>by
  obtain⟨e,r,rfl,h1,h2,h3⟩:=h.cons;simp only[findNow,h1,L.same,gJ];cases hka:k == a
  · simp only[Bool.false_eq_true,if_false];exact QX L k l r (i+1) h3
  · simp only[if_true,h2]
theorem GV (k:κ):∀ (l:List (κ × Value)) (i j:Nat) (v:Value),gJ k l i=some (j,v)->i<=j/\j<i+l.length
 | [],i,j,v,h=>by simp[gJ]at h
 |(a,x) :: l,i,j,v,h=>by
  simp only[gJ]at h;split at h
  · simp at h;obtain⟨rfl,_⟩:=h;simp
  · have:=GV k l (i+1) j v h;simp;omega
def MapAt (enc:κ->Value) (w:World) (r:Nat) (l:List (κ × Value)):Prop :=
 ∃ es clock,w.heap[r]? = some (.map es clock)/\kV enc l es.toList/\(∀ e∈es.toList,e.born<clock)/\(es.toList.map (·.born)).Nodup
theorem MapAt.lt {enc:κ->Value} {w:World} {r:Nat} {l:List (κ × Value)} (h:MapAt enc w r l):r<w.heap.size:=by
 obtain⟨es,clock,hb,_⟩:=h;rcases Nat.lt_or_ge r w.heap.size with h' | h'
 · exact h'
 · rw[Array.getElem?_eq_none h']at hb;cases hb
theorem MapAt.keep {enc:κ->Value} {w w':World} {r:Nat} {l:List (κ × Value)} (h:MapAt enc w r l) (hw:w'.heap[r]? = w.heap[r]?):MapAt enc w' r l:=by
 obtain⟨es,clock,hb,rest⟩:=h;exact⟨es,clock,by rw[hw];exact hb,rest⟩
theorem MapAt.new (enc:κ->Value) (w:World):MapAt enc (w.alloc (.map #[] 0)) w.heap.size []:=⟨#[],0,heap_alloc_new w _,by simp[kV],by simp,by simp⟩
theorem Mv.qL (w:World) (r:Nat) (o:Obj):Mv (λb=>b=r) w (qL w r o):=by
 refine⟨rfl,rfl,rfl,by simp[YtnobahchcongnaaGreatDoor.qL],λb _ hne => ?_⟩;have:r≠b:=λe=>hne e.symm;simp[YtnobahchcongnaaGreatDoor.qL,this]
theorem Ry (w:World) (r:Nat) (o:Obj) (h:r<w.heap.size):(qL w r o).heap[r]? = some o:=by simp[qL,h]
variable {P:Program} {K T E:TypeId} {enc:κ->Value} {desc:TypeDesc} {w:World} {r:Nat} {l:List (κ × Value)}
theorem run_findKey (L:KeyLaw P K enc desc) (k:κ) {es:Array MapEntry} (h:kV enc l es.toList):(findKey K (enc k) es.toList).run P w = .ok (gJ k l 0) w:=by
 simp only[findKey,Sem.run_bind,run_underlying L.hu,Result.andThen_ok,QX L k l es.toList 0 h,Sem.run_pure]
theorem run_get (L:KeyLaw P K enc desc) (ht:P.underlying T=some (.map K E)) (k:κ) (z:Value) (hz:∀ w,(zeroValue E).run P w = .ok z w) (h:MapAt enc w r l) :
 (lookup T (.map (some r)) (enc k) false).run P w = .ok ((sD l k).getD z) w:=by
 obtain⟨es,clock,hb,he,_⟩:=h;unfold lookup;simp only[Sem.run_bind,run_underlying ht,Result.andThen_ok,Ky hb,Sem.run_pure,L.check,run_findKey L k he];unfold sD;cases gJ k l 0 with
 |none=>simp[hz]
 |some p=>simp
theorem Ka (k:κ) (v:Value):∀ (l:List (κ × Value)) (es:List MapEntry) (i j:Nat) (x:Value),kV enc l es->gJ k l i=some (j,x)->kV enc (jl k v l) (es.modify (j - i) λe => { e with key:=enc k,val:=v })
 | [],es,i,j,x,_,h=>by simp[gJ]at h
 |(a,y) :: l,es,i,j,x,he,h=>by
  obtain⟨e,r,rfl,h1,h2,h3⟩:=he.cons;simp only[gJ]at h;simp only[jl];cases hka:k == a
  · simp only[hka,Bool.false_eq_true,if_false]at h ⊢;have hge:=(GV k l (i+1) j x h).1;have:=Ka k v l r (i+1) j x h3 h;rw[show j - i=j - (i+1)+1 by omega,List.modify_succ_cons];simp[kV,h1,h2]at this ⊢;exact this
  · simp only[hka,if_true]at h ⊢;simp at h;obtain⟨rfl,_⟩:=h;simp[kV]at h3 ⊢;exact h3
theorem Qm (k:κ) (v:Value) (n:Nat):∀ (l:List (κ × Value)) (es:List MapEntry) (i:Nat),kV enc l es->gJ k l i=none->kV enc (jl k v l) (es ++ [{ key:=enc k,val:=v,born:=n }])
 | [],es,i,he,_=>by
  have:es=[]:=by simpa[kV]using he
  subst this;simp[kV,jl]
 |(a,y) :: l,es,i,he,h=>by
  obtain⟨e,r,rfl,h1,h2,h3⟩:=he.cons;simp only[gJ]at h;simp only[jl];cases hka:k == a
  · simp only[hka,Bool.false_eq_true,if_false]at h ⊢;have:=Qm k v n l r (i+1) h3 h;simp[kV,h1,h2]at this ⊢;exact this
  · simp[hka]at h
theorem run_set (L:KeyLaw P K enc desc) (ht:P.underlying T=some (.map K E)) (k:κ) (v:Value) (h:MapAt enc w r l) :
 ∃ w',(mapUpdate T (.map (some r)) (enc k) v).run P w = .ok () w'/\MapAt enc w' r (jl k v l)/\Mv (λb=>b=r) w w':=by
 have hlt:=h.lt;obtain⟨es,clock,hb,he,hborn,hnd⟩:=h;have hrun:∀ o,(setObj r o).run P w = .ok () (qL w r o):=λo=>Zd o hb;have hc:=L.check false 9999 k w;cases hf:gJ k l 0 with
 |none =>
  refine⟨qL w r (.map (es.push { key:=enc k,val:=v,born:=clock }) (clock+1)),?_,⟨_,_,Ry _ _ _ hlt,?_,?_,?_⟩,Mv.qL _ _ _⟩
  · unfold mapUpdate;simp only[Sem.run_bind,run_underlying ht,Result.andThen_ok,Ky hb,hc,run_findKey L k he,hf,hrun]
  · simpa using Qm k v clock l es.toList 0 he hf
  · intro e hm;simp at hm;rcases hm with hm|rfl
    · have:=hborn e (by simpa using hm);omega
    · simp
  · simp only[Array.toList_push,List.map_append,List.map_cons,List.map_nil];refine List.nodup_append.2 ⟨hnd,by simp,?_⟩;intro a ha b hb';simp at hb';subst hb';obtain⟨e,hm,rfl⟩:=List.mem_map.1 ha;have:=hborn e hm;omega
 |some p =>
  obtain⟨j,x⟩:=p;have hj:=(GV k l 0 j x hf).2;have hlen:es.toList.length=l.length:=by
   have:=congrArg List.length he
   simpa using this
  have hkey:((es[j]?).map (·.key)).getD (enc k)=enc k:=by
   have h1:=Ka (enc:=enc) k v l es.toList 0 j x he hf;have qY:j<es.size:=by simp at hlen;omega
   have h2:=congrArg (λt=>t[j]?) he;simp only[List.getElem?_map]at h2;have hl:∀ (l:List (κ × Value)) (i:Nat),gJ k l i=some (j,x)->∃ p,l[j - i]? = some p/\k=p.1:=by
    intro l
    induction l with
    |nil=>intro i h;simp[gJ]at h
    |cons p l ih =>
     intro i h;obtain⟨a,y⟩:=p;simp only[gJ]at h;cases hka:k == a
     · simp only[hka,Bool.false_eq_true,if_false]at h;have hge:=(GV k l (i+1) j x h).1;obtain⟨p,h1,h2⟩:=ih (i+1) h;exact⟨p,by rw[show j - i=j - (i+1)+1 by omega,List.getElem?_cons_succ];exact h1,h2⟩
     · simp only[hka,if_true]at h;simp at h;obtain⟨rfl,_⟩:=h;exact⟨(a,y),by simp,by simpa using hka⟩
   obtain⟨p,h3,h4⟩:=hl l 0 hf;simp only[Nat.sub_zero]at h3;rw[h3]at h2;have h5:es[j]? = some es[j]:=Array.getElem?_eq_getElem qY;have h6:es.toList[j]? = some es[j]:=by simp
   rw[h6]at h2;simp at h2;rw[h5];simp[h2.1,h4]
  have hst:(keyThatStays (((es[j]?).map (·.key)).getD (enc k)) (enc k)).run P w = .ok (enc k) w:=by
   rw[hkey];simp[keyThatStays,L.bits]
  refine⟨qL w r (.map (es.modify j λe => { e with key:=enc k,val:=v }) clock),?_,⟨_,_,Ry _ _ _ hlt,?_,?_,?_⟩,Mv.qL _ _ _⟩
  · unfold mapUpdate;simp only[Sem.run_bind,run_underlying ht,Result.andThen_ok,Ky hb,hc,run_findKey L k he,hf,hst,hrun]
  · have:=Ka (enc:=enc) k v l es.toList 0 j x he hf
    simpa[Array.toList_modify]using this
  · intro e hm;rw[Array.toList_modify]at hm;obtain⟨i,hi,rfl⟩:=List.mem_iff_getElem.1 hm;rw[List.getElem_modify];have:=hborn (es.toList[i]'(by simpa using hi)) (List.getElem_mem _);split <;> exact this
  · have:(es.modify j λe => { e with key:=enc k,val:=v }).toList.map (·.born)=es.toList.map (·.born):=by
     rw[Array.toList_modify];apply List.ext_getElem?;intro i;simp only[List.getElem?_map,List.getElem?_modify];cases es.toList[i]? <;> simp;split <;> rfl
    rw[this];exact hnd
end
end
section
open Go.RowKit Go.Instr
def y7 (c:Int):Bool:=decide (97<=c) && decide (c<=122)
def tY (c:Int):Bool:=decide (48<=c) && decide (c<=57)
def sF (c:Int):Bool:=y7 c || tY c
def vP (c:Int):Bool:=((c == 32 || c == 9) || c == 13) || c == 10
def zu (c:Int):Bool:=c != 10
theorem Dm (c:Int) (w:World):Calls Tryz.prog 124 #[.int .u8 c] w λe w'=>e = .returned (.bool (y7 c))/\w=w':=by
 go_enter Tryz.func124,Tryz.ntmps124
 go_wp2
 all_goals (go_ret;exact⟨aK (by unfold y7;simp_all <;> omega),rfl⟩)
theorem BR (c:Int) (w:World):Calls Tryz.prog 127 #[.int .u8 c] w λe w'=>e = .returned (.bool (tY c))/\w=w':=by
 go_enter Tryz.func127,Tryz.ntmps127
 go_wp2
 all_goals (go_ret;exact⟨aK (by unfold tY;simp_all <;> omega),rfl⟩)
theorem Gx (c:Int) (w:World):Calls Tryz.prog 128 #[.int .u8 c] w λe w'=>e = .returned (.bool (vP c))/\w=w':=by
 go_enter Tryz.func128,Tryz.ntmps128
 go_wp2
 all_goals (go_ret;exact⟨aK (by unfold vP;simp_all),rfl⟩)
theorem QY (c:Int) (w:World):Calls Tryz.prog 129 #[.int .u8 c] w λe w'=>e = .returned (.bool (zu c))/\w=w':=by
 go_enter Tryz.func129,Tryz.ntmps129
 go_wp2
 all_goals (go_ret;exact⟨aK (by unfold zu;simp_all),rfl⟩)
theorem QZ (c:Int) (w:World):Calls Tryz.prog 126 #[.int .u8 c] w λe w'=>e = .returned (.bool (sF c))/\w=w':=by
 go_enter Tryz.func126,Tryz.ntmps126
 go_wp2_with (first
  |(go_at_call 124;refine(Dm _ _).mono ?_;rintro e w' ⟨rfl,rfl⟩)
  |(go_at_call 127;refine(BR _ _).mono ?_;rintro e w' ⟨rfl,rfl⟩))
 all_goals (go_ret;exact⟨aK (by unfold sF;simp_all),rfl⟩)
def qI (p:Int->Bool) (l:List UInt8):Nat:=(l.takeWhile λb=>p b.toNat).length
theorem GX (p:Int->Bool) (l:List UInt8) (k:Nat) (hk:k<l.length) (h:∀ j (hj:j<k),p (l[j].toNat)=true) (hn:p (l[k].toNat)=false):qI p l=k:=by
 induction l generalizing k with
 |nil=>simp at hk
 |cons b l ih =>
  cases k with
  |zero=>simp at hn;simp[qI,hn]
  |succ k =>
   have h0:=h 0 (by omega);simp at h0;have:=ih k (by simpa using hk) (λj hj=>by have:=h (j+1) (by omega);simpa using this) (by simpa using hn);simp[qI,h0]at this ⊢;exact this
theorem Gy (p:Int->Bool) (l:List UInt8) (h:∀ j (hj:j<l.length),p (l[j].toNat)=true):qI p l=l.length:=by
 induction l with
 |nil=>rfl
 |cons b l ih =>
  have h0:=h 0 (by simp);simp at h0;have:=ih (λj hj=>by have:=h (j+1) (by simpa using hj);simpa using this);simp[qI,h0]at this ⊢;exact this
def Il (p:Int->Bool) (s:ByteArray) (k:Nat):Prop:=∀ j (hj:j<s.size),j<k->p (s[j].toNat)=true
theorem Ze (s:ByteArray) (w:World) (hs:s.size<=1000000000):Calls Tryz.prog 125 #[.string s,.func (.func 126) #[] #[]] w λe w'=>e = .returned (.int .i64 (qI sF s.data.toList))/\w=w':=by
 go_enter Tryz.func125,Tryz.ntmps125
 go_wp2_with fail
 go_loop [8] (λt=>∃ k:Nat,k<=s.size/\t = .int .i64 k/\Hid (Il sF s k)) (λt=>s.size - (intOf t).toNat)
 case atStart=>exact⟨0,Nat.zero_le _,rfl,ł (λj _ h=>by omega)⟩
 case round =>
  obtain⟨k,hk,rfl,hu⟩:=hrel;by_cases hlt:k<s.size
  · by_cases hc:sF (s[k].toNat)=true
    · go_wp2_with fail;refine(QZ _ _).mono ?_;rintro e w' ⟨rfl,rfl⟩;go_wp2_with fail
      go_round
      case rel=>exact⟨k+1,by omega,by go_num,ł (λj hj h=>by
       rcases Nat.lt_or_ge j k with h1|h1
       · exact hu.out j hj h1
       · obtain rfl:j=k:=by omega
         exact hc)⟩
      case measure=>simp[intOf];omega
    · have hc2:sF (s[k].toNat)=false:=by simpa using hc
      have HF:=ł (GX sF s.data.toList k (by simpa using hlt) (λj hj=>hu.out j (by omega) hj) hc2);go_wp2_with fail;refine(QZ _ _).mono ?_;rintro e w' ⟨rfl,rfl⟩;go_wp2_with fail;go_ret;exact⟨iF (by rw[HF.out]),rfl⟩
  · have hge:s.size<=k:=by omega
    have HF:=ł (Gy sF s.data.toList (λj hj=>hu.out j (by simpa using hj) (Nat.lt_of_lt_of_le (by simpa using hj) hge)));go_wp2_with fail;go_ret;exact⟨iF (by rw[HF.out];simp),rfl⟩
theorem Zf (s:ByteArray) (w:World) (hs:s.size<=1000000000):Calls Tryz.prog 125 #[.string s,.func (.func 127) #[] #[]] w λe w'=>e = .returned (.int .i64 (qI tY s.data.toList))/\w=w':=by
 go_enter Tryz.func125,Tryz.ntmps125
 go_wp2_with fail
 go_loop [8] (λt=>∃ k:Nat,k<=s.size/\t = .int .i64 k/\Hid (Il tY s k)) (λt=>s.size - (intOf t).toNat)
 case atStart=>exact⟨0,Nat.zero_le _,rfl,ł (λj _ h=>by omega)⟩
 case round =>
  obtain⟨k,hk,rfl,hu⟩:=hrel;by_cases hlt:k<s.size
  · by_cases hc:tY (s[k].toNat)=true
    · go_wp2_with fail;refine(BR _ _).mono ?_;rintro e w' ⟨rfl,rfl⟩;go_wp2_with fail
      go_round
      case rel=>exact⟨k+1,by omega,by go_num,ł (λj hj h=>by
       rcases Nat.lt_or_ge j k with h1|h1
       · exact hu.out j hj h1
       · obtain rfl:j=k:=by omega
         exact hc)⟩
      case measure=>simp[intOf];omega
    · have hc2:tY (s[k].toNat)=false:=by simpa using hc
      have HF:=ł (GX tY s.data.toList k (by simpa using hlt) (λj hj=>hu.out j (by omega) hj) hc2);go_wp2_with fail;refine(BR _ _).mono ?_;rintro e w' ⟨rfl,rfl⟩;go_wp2_with fail;go_ret;exact⟨iF (by rw[HF.out]),rfl⟩
  · have hge:s.size<=k:=by omega
    have HF:=ł (Gy tY s.data.toList (λj hj=>hu.out j (by simpa using hj) (Nat.lt_of_lt_of_le (by simpa using hj) hge)));go_wp2_with fail;go_ret;exact⟨iF (by rw[HF.out];simp),rfl⟩
theorem Zg (s:ByteArray) (w:World) (hs:s.size<=1000000000):Calls Tryz.prog 125 #[.string s,.func (.func 128) #[] #[]] w λe w'=>e = .returned (.int .i64 (qI vP s.data.toList))/\w=w':=by
 go_enter Tryz.func125,Tryz.ntmps125
 go_wp2_with fail
 go_loop [8] (λt=>∃ k:Nat,k<=s.size/\t = .int .i64 k/\Hid (Il vP s k)) (λt=>s.size - (intOf t).toNat)
 case atStart=>exact⟨0,Nat.zero_le _,rfl,ł (λj _ h=>by omega)⟩
 case round =>
  obtain⟨k,hk,rfl,hu⟩:=hrel;by_cases hlt:k<s.size
  · by_cases hc:vP (s[k].toNat)=true
    · go_wp2_with fail;refine(Gx _ _).mono ?_;rintro e w' ⟨rfl,rfl⟩;go_wp2_with fail
      go_round
      case rel=>exact⟨k+1,by omega,by go_num,ł (λj hj h=>by
       rcases Nat.lt_or_ge j k with h1|h1
       · exact hu.out j hj h1
       · obtain rfl:j=k:=by omega
         exact hc)⟩
      case measure=>simp[intOf];omega
    · have hc2:vP (s[k].toNat)=false:=by simpa using hc
      have HF:=ł (GX vP s.data.toList k (by simpa using hlt) (λj hj=>hu.out j (by omega) hj) hc2);go_wp2_with fail;refine(Gx _ _).mono ?_;rintro e w' ⟨rfl,rfl⟩;go_wp2_with fail;go_ret;exact⟨iF (by rw[HF.out]),rfl⟩
  · have hge:s.size<=k:=by omega
    have HF:=ł (Gy vP s.data.toList (λj hj=>hu.out j (by simpa using hj) (Nat.lt_of_lt_of_le (by simpa using hj) hge)));go_wp2_with fail;go_ret;exact⟨iF (by rw[HF.out];simp),rfl⟩
theorem Z0 (s:ByteArray) (w:World) (hs:s.size<=1000000000):Calls Tryz.prog 125 #[.string s,.func (.func 129) #[] #[]] w λe w'=>e = .returned (.int .i64 (qI zu s.data.toList))/\w=w':=by
 go_enter Tryz.func125,Tryz.ntmps125
 go_wp2_with fail
 go_loop [8] (λt=>∃ k:Nat,k<=s.size/\t = .int .i64 k/\Hid (Il zu s k)) (λt=>s.size - (intOf t).toNat)
 case atStart=>exact⟨0,Nat.zero_le _,rfl,ł (λj _ h=>by omega)⟩
 case round =>
  obtain⟨k,hk,rfl,hu⟩:=hrel;by_cases hlt:k<s.size
  · by_cases hc:zu (s[k].toNat)=true
    · go_wp2_with fail;refine(QY _ _).mono ?_;rintro e w' ⟨rfl,rfl⟩;go_wp2_with fail
      go_round
      case rel=>exact⟨k+1,by omega,by go_num,ł (λj hj h=>by
       rcases Nat.lt_or_ge j k with h1|h1
       · exact hu.out j hj h1
       · obtain rfl:j=k:=by omega
         exact hc)⟩
      case measure=>simp[intOf];omega
    · have hc2:zu (s[k].toNat)=false:=by simpa using hc
      have HF:=ł (GX zu s.data.toList k (by simpa using hlt) (λj hj=>hu.out j (by omega) hj) hc2);go_wp2_with fail;refine(QY _ _).mono ?_;rintro e w' ⟨rfl,rfl⟩;go_wp2_with fail;go_ret;exact⟨iF (by rw[HF.out]),rfl⟩
  · have hge:s.size<=k:=by omega
    have HF:=ł (Gy zu s.data.toList (λj hj=>hu.out j (by simpa using hj) (Nat.lt_of_lt_of_le (by simpa using hj) hge)));go_wp2_with fail;go_ret;exact⟨iF (by rw[HF.out];simp),rfl⟩
end
end Go.Proofs.YtnobahchcongnaaGreatDoor
namespace Go.Proofs
open Go.Shelf
def Tryz.XG:Go.Shelf.Ren:=⟨fun|137=>137|217=>140|266=>141|n=>n,fun|9=>9|5=>5|3=>3|n=>n,fun|n=>n⟩
theorem Tryz.aac:Go.Proofs.Lays.n137 Tryz.prog Tryz.XG := {
 mixed:=by kernel_rfl
 f137:=Tryz.func137.trans (congrArg some (by kernel_rfl))
 f217:=Tryz.func140.trans (congrArg some (by kernel_rfl))
 f266:=Tryz.func141.trans (congrArg some (by kernel_rfl))
 t3:=Tryz.underlying3
 a3:=Tryz.isAgg3
 z3:=Tryz.sizeOf3
 v3:=Tryz.zeroValue3
 t5:=Tryz.underlying5
 a5:=Tryz.isAgg5
 z5:=Tryz.sizeOf5
 v5:=Tryz.zeroValue5
 t9:=Tryz.underlying9
 a9:=Tryz.isAgg9
 z9:=Tryz.sizeOf9
 v9:=Tryz.zeroValue9 }
open Go.RowKit in
theorem Tryz.strings_IndexByte (s:ByteArray) (c:Int) (w:World) :
 Calls Tryz.prog 137 #[.string s,.int .u8 c] w λe w'=>e = .returned (.int .i64 (Lib.indexByte s.data.toList c.toNat.toUInt8))/\w'=w:=Any.strings_IndexByte Tryz.aac s c w
def Tryz.XH:Go.Shelf.Ren:=⟨fun|215=>96|n=>n,fun|3=>3|4=>4|n=>n,fun|n=>n⟩
theorem Tryz.aad:Go.Proofs.Lays.n215 Tryz.prog Tryz.XH := {
 mixed:=by kernel_rfl
 f215:=Tryz.func96.trans (congrArg some (by kernel_rfl))
 t3:=Tryz.underlying3
 a3:=Tryz.isAgg3
 z3:=Tryz.sizeOf3
 v3:=Tryz.zeroValue3
 t4:=Tryz.underlying4
 a4:=Tryz.isAgg4
 z4:=Tryz.sizeOf4
 v4:=Tryz.zeroValue4 }
open Go.RowKit in
theorem Tryz.cmp_isNaN_int (x:Int) (w:World) :
 Calls Tryz.prog 96 #[.int .i64 x] w λe w'=>e = .returned (.bool false)/\w'=w:=Any.cmp_isNaN_int Tryz.aad x w
def Tryz.XI:Go.Shelf.Ren:=⟨fun|122=>75|215=>96|n=>n,fun|3=>3|4=>4|n=>n,fun|n=>n⟩
theorem Tryz.aae:Go.Proofs.Lays.n122 Tryz.prog Tryz.XI := {
 mixed:=by kernel_rfl
 f122:=Tryz.func75.trans (congrArg some (by kernel_rfl))
 f215:=Tryz.func96.trans (congrArg some (by kernel_rfl))
 t3:=Tryz.underlying3
 a3:=Tryz.isAgg3
 z3:=Tryz.sizeOf3
 v3:=Tryz.zeroValue3
 t4:=Tryz.underlying4
 a4:=Tryz.isAgg4
 z4:=Tryz.sizeOf4
 v4:=Tryz.zeroValue4 }
open Go.RowKit in
theorem Tryz.cmp_Compare_int (x y:Int) (w:World) :
 Calls Tryz.prog 75 #[.int .i64 x,.int .i64 y] w λe w'=>e = .returned (.int .i64 (Lib.compareInt x y))/\w'=w:=Any.cmp_Compare_int Tryz.aae x y w
def Tryz.XJ:Go.Shelf.Ren:=⟨fun|217=>140|266=>141|n=>n,fun|9=>9|5=>5|3=>3|n=>n,fun|n=>n⟩
theorem Tryz.aaf:Go.Proofs.Lays.n217 Tryz.prog Tryz.XJ := {
 mixed:=by kernel_rfl
 f217:=Tryz.func140.trans (congrArg some (by kernel_rfl))
 f266:=Tryz.func141.trans (congrArg some (by kernel_rfl))
 t3:=Tryz.underlying3
 a3:=Tryz.isAgg3
 z3:=Tryz.sizeOf3
 v3:=Tryz.zeroValue3
 t5:=Tryz.underlying5
 a5:=Tryz.isAgg5
 z5:=Tryz.sizeOf5
 v5:=Tryz.zeroValue5
 t9:=Tryz.underlying9
 a9:=Tryz.isAgg9
 z9:=Tryz.sizeOf9
 v9:=Tryz.zeroValue9 }
open Go.RowKit Go.Lib in
theorem Tryz.stringslite_IndexByte (s:ByteArray) (c:Int) (w:World) :
 Calls Tryz.prog 140 #[.string s,.int .u8 c] w λe w'=>e = .returned (.int .i64 (Lib.indexByte s.data.toList c.toNat.toUInt8))/\w'=w:=Any.stringslite_IndexByte Tryz.aaf s c w
def Tryz.XK:Go.Shelf.Ren:=⟨fun|206=>139|n=>n,fun|9=>9|4=>4|3=>3|n=>n,fun|n=>n⟩
theorem Tryz.aag:Go.Proofs.Lays.n206 Tryz.prog Tryz.XK := {
 mixed:=by kernel_rfl
 f206:=Tryz.func139.trans (congrArg some (by kernel_rfl))
 t3:=Tryz.underlying3
 a3:=Tryz.isAgg3
 z3:=Tryz.sizeOf3
 v3:=Tryz.zeroValue3
 t4:=Tryz.underlying4
 a4:=Tryz.isAgg4
 z4:=Tryz.sizeOf4
 v4:=Tryz.zeroValue4
 t9:=Tryz.underlying9
 a9:=Tryz.isAgg9
 z9:=Tryz.sizeOf9
 v9:=Tryz.zeroValue9 }
open Go.RowKit Go.Lib in
theorem Tryz.stringslite_HasPrefix (s p:ByteArray) (w:World) :
 Calls Tryz.prog 139 #[.string s,.string p] w λe w'=>e = .returned (.bool (Lib.hasPrefix s.data.toList p.data.toList))/\w'=w:=Any.stringslite_HasPrefix Tryz.aag s p w
def Tryz.Yk:Go.Shelf.Ren:=⟨fun|99=>136|206=>139|n=>n,fun|9=>9|4=>4|3=>3|n=>n,fun|n=>n⟩
theorem Tryz.aaK:Go.Proofs.Lays.n99 Tryz.prog Tryz.Yk := {
 mixed:=by kernel_rfl
 f99:=Tryz.func136.trans (congrArg some (by kernel_rfl))
 f206:=Tryz.func139.trans (congrArg some (by kernel_rfl))
 t3:=Tryz.underlying3
 a3:=Tryz.isAgg3
 z3:=Tryz.sizeOf3
 v3:=Tryz.zeroValue3
 t4:=Tryz.underlying4
 a4:=Tryz.isAgg4
 z4:=Tryz.sizeOf4
 v4:=Tryz.zeroValue4
 t9:=Tryz.underlying9
 a9:=Tryz.isAgg9
 z9:=Tryz.sizeOf9
 v9:=Tryz.zeroValue9 }
open Go.RowKit Go.Lib in
theorem Tryz.strings_HasPrefix (s p:ByteArray) (w:World) :
 Calls Tryz.prog 136 #[.string s,.string p] w λe w'=>e = .returned (.bool (Lib.hasPrefix s.data.toList p.data.toList))/\w'=w:=Any.strings_HasPrefix Tryz.aaK s p w
end Go.Proofs
namespace Go.Proofs.YtnobahchcongnaaGreatDoor
end Go.Proofs.YtnobahchcongnaaGreatDoor
