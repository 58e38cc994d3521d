import Derived.Lib.Hide
import Derived.WalkKit
import Derived.WalkSpells
import Derived.WalkLawsBesides
import Derived.Laws.EntriesVeiled
import Derived.Deep.QuietTactic
import Derived.BigQuiet
import Derived.Test.YtbpodipdfohikaaGreatRows
import Derived.Shelf.Small.Strs
import Derived.Shelf.Strings.Search1
import Derived.Shelf.Strings.Prefix
import Derived.Shelf.Slices.Reverse
import Derived.Ground.Names2Prog
import Derived.Shelf.Slices.Clone
import Derived.Shelf.Slices.Delete
import Derived.Shelf.Slices.Cells
import Derived.Shelf.Slices.Empties
import Derived.Test.YtbpodipdfohikaaGreatProg
set_option linter.unusedSimpArgs false
set_option linter.unusedVariables false
set_option linter.unusedSectionVars false
set_option maxRecDepth 100000
set_option maxHeartbeats 25600000
namespace Go.Proofs.YtbpodipdfohikaaGreat
section
theorem ł {p : Prop} (h : p) : Go.RowKit.Hid p := h
end
section
open Go.RowKit
structure Mv (O:Nat->Prop) (w w':World):Prop where
 os:w'.os=w.os
 tape:w'.tape=w.tape
 output:w'.output=w.output
 size:w.heap.size<=w'.heap.size
 block:∀ b,b<w.heap.size->¬ O b->w'.heap[b]? = w.heap[b]?
theorem Mv.refl (O:Nat->Prop) (w:World):Mv O w w:=⟨rfl,rfl,rfl,Nat.le_refl _,λ_ _ _=>rfl⟩
theorem Mv.trans {O O1:Nat->Prop} {a b c:World} (h:Mv O a b) (k:Mv O1 b c) (hs:∀ x,O1 x->O x\/a.heap.size<=x):Mv O a c :=
 ⟨k.os.trans h.os,k.tape.trans h.tape,k.output.trans h.output,Nat.le_trans h.size k.size,λi hi hn =>
  (k.block i (Nat.lt_of_lt_of_le hi h.size) (λe=>by rcases hs i e with h1|h1;exact hn h1;omega)).trans (h.block i hi hn)⟩
theorem Mv.mono {O O1:Nat->Prop} {a b:World} (h:Mv O a b) (hs:∀ x,O x->O1 x\/a.heap.size<=x):Mv O1 a b :=
 ⟨h.os,h.tape,h.output,h.size,λi hi hn=>h.block i hi (λe=>by rcases hs i e with h1|h1;exact hn h1;omega)⟩
theorem Mv.alloc {O:Nat->Prop} {a w:World} (h:Mv O a w) (o:Obj):Mv O a (w.alloc o) :=
 h.trans (O1:=λ_=>False) ⟨rfl,rfl,rfl,by simp,λk hk _=>Below.heap_alloc w o k hk⟩ (λ_ e=>e.elim)
theorem Mv.drew {O:Nat->Prop} {a w:World} (h:Mv O a w):Mv O a w.drew:=⟨h.os,h.tape,h.output,h.size,h.block⟩
theorem Mv.setCell {O:Nat->Prop} {a w:World} (h:Mv O a w) {p:Addr} (hp:O p.block\/a.heap.size<=p.block) (u:Value):Mv O a (w.setCell p u) :=
 h.trans (O1:=λx=>x=p.block) ⟨rfl,rfl,rfl,by simp,λk _ hn=>Below.heap_setCell _ _ _ _ hn⟩ (λx e=>by subst e;exact hp)
theorem Mv.grown {O:Nat->Prop} {a w w':World} {row:Option Nat} (h:Mv O a w) (hg:w.grownBy w' row) (hr:∀ k,row=some k->O k\/a.heap.size<=k):Mv O a w' :=
 h.trans (O1:=λx=>row=some x) ⟨hg.os,hg.tape,hg.output,hg.size,λk hk hn=>hg.block k hk (λe=>hn e.symm)⟩ (λx e=>hr x e)
theorem Tc {P:Program} (w:World) (d:Nat) {t:TypeId} {a b:Array TypeId} {v:Bool} (fn:Fn) (x y:Array Value) (h:P.underlying t=some (.func a b v)) :
 (Op.equalIn (d+1) t (.func fn x y) .nilFunc).run P w = .ok false w:=by simp[Op.equalIn,run_underlying h]
theorem Gc {P:Program} (w:World) {t:TypeId} {a b:Array TypeId} {v:Bool} (fn:Fn) (x y:Array Value) (h:P.underlying t=some (.func a b v)) :
 (binOp .eql t (.func fn x y) .nilFunc).run P w = .ok (.bool false) w:=by
 have e:(Op.equal t (.func fn x y) .nilFunc).run P w = .ok false w:=Tc w 9999 fn x y h
 simp only[binOp]
 simp[e]
theorem Td {P:Program} (w:World) (base:Nat) (t ty e:TypeId) (i:TypeInfo) (z:Value) (size bytes:Nat) (ht:P.underlying t=some (.slice e)) (hi:P.info? e=some i) (hz:i.zero=some z)
 (hsize:i.size=size) (hby:i.bytes=bytes) (hzs:z.cells.size=size) (hsz:0<size)
 (v:Value) (n:Nat) (xs:List Value) (hown:w.ownsRow base e size v n xs)
 (a:Addr) (m c:Nat) (news:List Value) (hl:news.length=m * size) (hnews:∀ j u,news[j]? = some u->w.cell? (a.add j)=some u) (h1:∀ u∈news,u.oneCell'=true)
 (h63:n+m<=maxLen) (hbytes:(n+m) * bytes<=140737488355328) (hbase:base<=w.heap.size) :
 ∃ v' w',(Builtin.append_ #[t,t] ty #[v,.slice (some a) m c]).run P w = .ok v' w'/\w'.ownsRow base e size v' (n+m) (xs ++ news)/\w.grownBy w' v.ownBlock /\
  (v' = .slice none 0 0↔v = .slice none 0 0/\m=0)/\(∀ g,v'.ownBlock=some g->v.ownBlock=some g\/w.heap.size<=g):=by
 obtain⟨v',w',hr,h2,h3,h4⟩:=run_append_own (P:=P) w base t ty e i z size bytes ht hi hz hsize hby hzs hsz v n xs hown a m c news hl hnews h1 h63 hbytes hbase
 refine⟨v',w',hr,h2,h3,h4,?_⟩
 rcases hown.2 with⟨rfl,rfl⟩|⟨g,cap,cur,rfl,hbg,hg,hnc,hcm,hcs,htake⟩
 · have hx:xs=[]:=List.eq_nil_of_length_eq_zero (by simpa using hown.1)
   subst hx
   obtain⟨v2,w2,hr2,h22,_⟩:=run_append_own (P:=P) w w.heap.size t ty e i z size bytes ht hi hz hsize hby hzs hsz (.slice none 0 0) 0 [] (World.ownsRow_nil _ _ _ _) a m c news hl hnews h1 h63 hbytes (Nat.le_refl _)
   rw[hr]at hr2
   simp only[Result.ok.injEq]at hr2
   obtain⟨rfl,rfl⟩:=hr2
   exact λg hg => .inr (h22.lt g hg).1
 · subst hsize
   by_cases hroom:n+m<=cap
   · have hfit:n * i.size+news.length<=cur.size:=by rw[hl,hcs,← Nat.add_mul];exact Nat.mul_le_mul_right _ hroom
     have hr2:=run_append_room (P:=P) w t ty e i ht hi g n cap cur hg a m c news hl hnews h1 hroom hfit
     rw[hr]at hr2
     simp only[Result.ok.injEq]at hr2
     obtain⟨rfl,rfl⟩:=hr2
     exact λg' hg' => .inl (by simpa[Value.ownBlock]using hg')
   · have holds:∀ j u,xs[j]? = some u->w.cell? ((⟨g,0,none⟩:Addr).add j)=some u:=hown.cells (g:=g) rfl
     subst hby
     have hsmall:n+m<=9223372036854775807:=by simp only[maxLen]at h63;omega
     have hr2:=run_append_grow (P:=P) w t ty e i z ht hi hz ⟨g,0,none⟩ n cap xs hown.1 holds a m c news hl hnews (by omega) (by omega) (growslice_fits (by omega) hbytes)
     rw[hr]at hr2
     simp only[Result.ok.injEq]at hr2
     obtain⟨rfl,rfl⟩:=hr2
     exact λg' hg' => .inr (by simp[Value.ownBlock]at hg';omega)
end
section
open Go.RowKit
noncomputable def lW (P:Program) (t ty:TypeId) (v s:Value) (w:World):Value :=
 match (Builtin.append_ #[t,t] ty #[v,s]).run P w with
 |.ok x _=>x
 |_=>undef
noncomputable def appW (P:Program) (t ty:TypeId) (v s:Value) (w:World):World :=
 match (Builtin.append_ #[t,t] ty #[v,s]).run P w with
 |.ok _ y=>y
 |_=>w
def nJ (P:Program) (t ty:TypeId) (v s:Value) (w:World):Prop:=∃ x y,(Builtin.append_ #[t,t] ty #[v,s]).run P w = .ok x y
theorem G8 {P:Program} {t ty:TypeId} {v s:Value} {w:World} (h:nJ P t ty v s w):(Builtin.append_ #[t,t] ty #[v,s]).run P w = .ok (lW P t ty v s w) (appW P t ty v s w):=by
 obtain⟨x,y,h⟩:=h
 simp only[lW,appW,h]
theorem gD {P:Program} {ρ:Operand->Value} {d:Option Tmp} {s x:Operand} {t ty:TypeId} {pos:String} {af:Array Edge} {gd:Option (Nat × Bool)} {w:World} (h:nJ P t ty (ρ s) (ρ x) w) :
 (execOp ρ { dst:=d,op := .call { callee := .builtin .append,args:=#[s,x],argTypes:=#[t,t] },type:=ty,pos:=pos,after:=af,guard:=gd }).run P w = .ok (.value (lW P t ty (ρ s) (ρ x) w)) (appW P t ty (ρ s) (ρ x) w):=by
 have hr:=G8 h
 unfold execOp
 simp only[resolve,invoke,builtin,Sem.run_bind,Sem.run_pure,Result.andThen_ok,List.map_toArray,List.map_cons,List.map_nil,hr]
theorem zP {P:Program} {t ty:TypeId} {v s x:Value} {w y:World} (h:(Builtin.append_ #[t,t] ty #[v,s]).run P w = .ok x y):nJ P t ty v s w/\lW P t ty v s w=x/\appW P t ty v s w=y :=
 ⟨⟨x,y,h⟩,by simp only[lW,h],by simp only[appW,h]⟩
end
section
open Go.RowKit
structure Ins where
 op:Int
 a:Int
 b:Int
 c:Int
 d:Int
def Ins.cells (i:Ins):List Value:=[.int .u8 i.op,.int .i64 i.a,.int .i64 i.b,.int .i64 i.c,.int .i64 i.d]
abbrev Ins.val (i:Ins):Value := .agg #[.int .u8 i.op,.int .i64 i.a,.int .i64 i.b,.int .i64 i.c,.int .i64 i.d]
def _u (op:Int):Bool:=op == 22 || (op == 25 || (op == 30 || (op == 31 || (op == 32 || op == 33))))
def _v (op:Int):Bool:=op == 23 || (op == 24 || (op == 26 || op == 27))
def Ins.target (i:Ins):Int:=if _u i.op then i.a else if _v i.op then i.b else 0
theorem aV {a b:Bool} (h:a=b):Ending.returned (.bool a) = .returned (.bool b):=by rw[h]
theorem dE {k:IntKind} {a b:Int} (h:a=b):Ending.returned (.int k a) = .returned (.int k b):=by rw[h]
end
section
open Go.RowKit
def unused (n:Int) (i:Ins):Bool:=(decide (0<n) || i.a == 0) && ((decide (1<n) || i.b == 0) && ((decide (2<n) || i.c == 0) && (decide (3<n) || i.d == 0)))
def Oe (n:Int) (i:Ins) (k:Nat):Prop:=(0<k->n<=0->i.a=0)/\(1<k->n<=1->i.b=0)/\(2<k->n<=2->i.c=0)/\(3<k->n<=3->i.d=0)
theorem Oe.all {n:Int} {i:Ins} (h:Oe n i 4):unused n i=true:=by
 obtain⟨h1,h2,h3,h4⟩:=h
 simp only[unused,Bool.and_eq_true,Bool.or_eq_true,decide_eq_true_eq,beq_iff_eq]
 refine⟨?_,?_,?_,?_⟩ <;> omega
end
section
open Go.RowKit Go.Instr
def mM (w:World) (r:Nat) (o:Obj):World := { w with heap:=w.heap.setIfInBounds r o }
theorem bytes_beq (a b:ByteArray):(a == b)=decide (a=b):=by
 cases a with|mk x=>cases b with|mk y =>
 show(x == y)=_
 by_cases h:x=y
 · subst h;simp
 · have h1:(x == y)=false:=by simpa using h
   have h2:¬ (⟨x⟩:ByteArray)=⟨y⟩:=λe=>h (by simpa using congrArg ByteArray.data e)
   simp[h1,h2]
instance:LawfulBEq ByteArray where
 eq_of_beq:=by intro a b h;rw[bytes_beq]at h;exact of_decide_eq_true h
 rfl:=by intro a;rw[bytes_beq];simp
theorem Gw {P:Program} {w:World} {r:Nat} {es:Array MapEntry} {c:Nat} (hb:w.heap[r]? = some (.map es c)):(getObj r).run P w = .ok (.map es c) w:=by simp[getObj,Sem.run,hb]
theorem Vd {P:Program} {w:World} {r:Nat} {es:Array MapEntry} {c:Nat} (o':Obj) (hb:w.heap[r]? = some (.map es c)):(setObj r o').run P w = .ok () (mM w r o'):=by simp[setObj,Sem.run,hb,mM]
structure KeyLaw (P:Program) (K:TypeId) {κ:Type} [BEq κ] [LawfulBEq κ] (enc:κ->Value) (desc:TypeDesc):Prop where
 hu:P.underlying K=some desc
 same:∀ a b:κ,sameNow desc (enc a) (enc b)=some (a == b)
 check:∀ (e:Bool) (n:Nat) (a:κ) (w:World),(checkKey e (n+1) K (enc a)).run P w = .ok () w
 bits:∀ a:κ,sameBits 10000 (enc a) (enc a)=true
theorem Xw {P:Program} {K:TypeId} (hu:P.underlying K=some .string):KeyLaw P K Value.string .string:=by
 refine⟨hu,λa b=>rfl,λe n a w => ?_,λa=>by simp[sameBits]⟩
 simp[checkKey,run_underlying hu]
section
variable {κ:Type} [BEq κ] [LawfulBEq κ]
def iI (k:κ):List (κ × Value)->Nat->Option (Nat × Value)
 | [],_=>none
 |(a,x) :: l,i=>if k == a then some (i,x)else iI k l (i+1)
def EK (l:List (κ × Value)) (k:κ):Option Value:=(iI k l 0).map (·.2)
def mO (k:κ) (v:Value):List (κ × Value)->List (κ × Value)
 | []=>[(k,v)]
 |(a,x) :: l=>if k == a then(k,v) :: l else(a,x) :: mO k v l
def jc (enc:κ->Value) (l:List (κ × Value)) (es:List MapEntry):Prop:=es.map (λe=>(e.key,e.val))=l.map (λp=>(enc p.1,p.2))
theorem jc.cons {enc:κ->Value} {p:κ × Value} {l:List (κ × Value)} {es:List MapEntry} (h:jc enc (p :: l) es):∃ e r,es=e :: r/\e.key=enc p.1/\e.val=p.2/\jc enc l r:=by
 cases es with
 |nil=>simp[jc]at h
 |cons e r=>simp[jc]at h;exact⟨e,r,rfl,h.1.1,h.1.2,by simpa[jc]using h.2⟩
theorem Mg {P:Program} {K:TypeId} {enc:κ->Value} {desc:TypeDesc} (L:KeyLaw P K enc desc) (k:κ):∀ (l:List (κ × Value)) (es:List MapEntry) (i:Nat),jc enc l es->findNow desc (enc k) es i=some (iI k l i)
 | [],es,i,h=>by
  have:es=[]:=by simpa[jc]using h
  subst this;rfl
 |(a,x) :: l,es,i,h=>by
  obtain⟨e,r,rfl,h1,h2,h3⟩:=h.cons
  simp only[findNow,h1,L.same,iI]
  cases hka:k == a
  · simp only[Bool.false_eq_true,if_false];exact Mg L k l r (i+1) h3
  · simp only[if_true,h2]
theorem Eh (k:κ):∀ (l:List (κ × Value)) (i j:Nat) (v:Value),iI k l i=some (j,v)->i<=j/\j<i+l.length
 | [],i,j,v,h=>by simp[iI]at h
 |(a,x) :: l,i,j,v,h=>by
  simp only[iI]at h
  split at h
  · simp at h;obtain⟨rfl,_⟩:=h;simp
  · have:=Eh k l (i+1) j v h;simp;omega
def MapAt (enc:κ->Value) (w:World) (r:Nat) (l:List (κ × Value)):Prop :=
 ∃ es clock,w.heap[r]? = some (.map es clock)/\jc enc l es.toList/\(∀ e∈es.toList,e.born<clock)/\(es.toList.map (·.born)).Nodup
theorem MapAt.lt {enc:κ->Value} {w:World} {r:Nat} {l:List (κ × Value)} (h:MapAt enc w r l):r<w.heap.size:=by
 obtain⟨es,clock,hb,_⟩:=h
 rcases Nat.lt_or_ge r w.heap.size with h' | h'
 · exact h'
 · rw[Array.getElem?_eq_none h']at hb;cases hb
theorem MapAt.keep {enc:κ->Value} {w w':World} {r:Nat} {l:List (κ × Value)} (h:MapAt enc w r l) (hw:w'.heap[r]? = w.heap[r]?):MapAt enc w' r l:=by
 obtain⟨es,clock,hb,rest⟩:=h
 exact⟨es,clock,by rw[hw];exact hb,rest⟩
theorem MapAt.new (enc:κ->Value) (w:World):MapAt enc (w.alloc (.map #[] 0)) w.heap.size []:=⟨#[],0,heap_alloc_new w _,by simp[jc],by simp,by simp⟩
theorem Mv.mM (w:World) (r:Nat) (o:Obj):Mv (λb=>b=r) w (mM w r o):=by
 refine⟨rfl,rfl,rfl,by simp[YtbpodipdfohikaaGreat.mM],λb _ hne => ?_⟩
 have:r≠b:=λe=>hne e.symm
 simp[YtbpodipdfohikaaGreat.mM,this]
theorem MQ (w:World) (r:Nat) (o:Obj) (h:r<w.heap.size):(mM w r o).heap[r]? = some o:=by simp[mM,h]
variable {P:Program} {K T E:TypeId} {enc:κ->Value} {desc:TypeDesc} {w:World} {r:Nat} {l:List (κ × Value)}
theorem run_findKey (L:KeyLaw P K enc desc) (k:κ) {es:Array MapEntry} (h:jc enc l es.toList):(findKey K (enc k) es.toList).run P w = .ok (iI k l 0) w:=by
 simp only[findKey,Sem.run_bind,run_underlying L.hu,Result.andThen_ok,Mg L k l es.toList 0 h,Sem.run_pure]
theorem run_get (L:KeyLaw P K enc desc) (ht:P.underlying T=some (.map K E)) (k:κ) (z:Value) (hz:∀ w,(zeroValue E).run P w = .ok z w) (h:MapAt enc w r l) :
 (lookup T (.map (some r)) (enc k) false).run P w = .ok ((EK l k).getD z) w:=by
 obtain⟨es,clock,hb,he,_⟩:=h
 unfold lookup
 simp only[Sem.run_bind,run_underlying ht,Result.andThen_ok,Gw hb,Sem.run_pure,L.check,run_findKey L k he]
 unfold EK
 cases iI k l 0 with
 |none=>simp[hz]
 |some p=>simp
theorem Gg (k:κ) (v:Value):∀ (l:List (κ × Value)) (es:List MapEntry) (i j:Nat) (x:Value),jc enc l es->iI k l i=some (j,x)->jc enc (mO k v l) (es.modify (j - i) λe => { e with key:=enc k,val:=v })
 | [],es,i,j,x,_,h=>by simp[iI]at h
 |(a,y) :: l,es,i,j,x,he,h=>by
  obtain⟨e,r,rfl,h1,h2,h3⟩:=he.cons
  simp only[iI]at h
  simp only[mO]
  cases hka:k == a
  · simp only[hka,Bool.false_eq_true,if_false]at h ⊢
    have hge:=(Eh k l (i+1) j x h).1
    have:=Gg k v l r (i+1) j x h3 h
    rw[show j - i=j - (i+1)+1 by omega,List.modify_succ_cons]
    simp[jc,h1,h2]at this ⊢
    exact this
  · simp only[hka,if_true]at h ⊢
    simp at h
    obtain⟨rfl,_⟩:=h
    simp[jc]at h3 ⊢
    exact h3
theorem Li (k:κ) (v:Value) (n:Nat):∀ (l:List (κ × Value)) (es:List MapEntry) (i:Nat),jc enc l es->iI k l i=none->jc enc (mO k v l) (es ++ [{ key:=enc k,val:=v,born:=n }])
 | [],es,i,he,_=>by
  have:es=[]:=by simpa[jc]using he
  subst this;simp[jc,mO]
 |(a,y) :: l,es,i,he,h=>by
  obtain⟨e,r,rfl,h1,h2,h3⟩:=he.cons
  simp only[iI]at h
  simp only[mO]
  cases hka:k == a
  · simp only[hka,Bool.false_eq_true,if_false]at h ⊢
    have:=Li k v n l r (i+1) h3 h
    simp[jc,h1,h2]at this ⊢
    exact this
  · simp[hka]at h
theorem run_set (L:KeyLaw P K enc desc) (ht:P.underlying T=some (.map K E)) (k:κ) (v:Value) (h:MapAt enc w r l) :
 ∃ w',(mapUpdate T (.map (some r)) (enc k) v).run P w = .ok () w'/\MapAt enc w' r (mO k v l)/\Mv (λb=>b=r) w w':=by
 have hlt:=h.lt
 obtain⟨es,clock,hb,he,hborn,hnd⟩:=h
 have hrun:∀ o,(setObj r o).run P w = .ok () (mM w r o):=λo=>Vd o hb
 have hc:=L.check false 9999 k w
 cases hf:iI k l 0 with
 |none =>
  refine⟨mM w r (.map (es.push { key:=enc k,val:=v,born:=clock }) (clock+1)),?_,⟨_,_,MQ _ _ _ hlt,?_,?_,?_⟩,Mv.mM _ _ _⟩
  · unfold mapUpdate
    simp only[Sem.run_bind,run_underlying ht,Result.andThen_ok,Gw hb,hc,run_findKey L k he,hf,hrun]
  · simpa using Li k v clock l es.toList 0 he hf
  · intro e hm
    simp at hm
    rcases hm with hm|rfl
    · have:=hborn e (by simpa using hm);omega
    · simp
  · simp only[Array.toList_push,List.map_append,List.map_cons,List.map_nil]
    refine List.nodup_append.2 ⟨hnd,by simp,?_⟩
    intro a ha b hb'
    simp at hb'
    subst hb'
    obtain⟨e,hm,rfl⟩:=List.mem_map.1 ha
    have:=hborn e hm;omega
 |some p =>
  obtain⟨j,x⟩:=p
  have hj:=(Eh k l 0 j x hf).2
  have hlen:es.toList.length=l.length:=by
   have:=congrArg List.length he
   simpa using this
  have hkey:((es[j]?).map (·.key)).getD (enc k)=enc k:=by
   have h1:=Gg (enc:=enc) k v l es.toList 0 j x he hf
   have CF:j<es.size:=by simp at hlen;omega
   have h2:=congrArg (λt=>t[j]?) he
   simp only[List.getElem?_map]at h2
   have hl:∀ (l:List (κ × Value)) (i:Nat),iI k l i=some (j,x)->∃ p,l[j - i]? = some p/\k=p.1:=by
    intro l
    induction l with
    |nil=>intro i h;simp[iI]at h
    |cons p l ih =>
     intro i h
     obtain⟨a,y⟩:=p
     simp only[iI]at h
     cases hka:k == a
     · simp only[hka,Bool.false_eq_true,if_false]at h
       have hge:=(Eh k l (i+1) j x h).1
       obtain⟨p,h1,h2⟩:=ih (i+1) h
       exact⟨p,by rw[show j - i=j - (i+1)+1 by omega,List.getElem?_cons_succ];exact h1,h2⟩
     · simp only[hka,if_true]at h
       simp at h
       obtain⟨rfl,_⟩:=h
       exact⟨(a,y),by simp,by simpa using hka⟩
   obtain⟨p,h3,h4⟩:=hl l 0 hf
   simp only[Nat.sub_zero]at h3
   rw[h3]at h2
   have h5:es[j]? = some es[j]:=Array.getElem?_eq_getElem CF
   have h6:es.toList[j]? = some es[j]:=by simp
   rw[h6]at h2
   simp at h2
   rw[h5]
   simp[h2.1,h4]
  have hst:(keyThatStays (((es[j]?).map (·.key)).getD (enc k)) (enc k)).run P w = .ok (enc k) w:=by
   rw[hkey];simp[keyThatStays,L.bits]
  refine⟨mM w r (.map (es.modify j λe => { e with key:=enc k,val:=v }) clock),?_,⟨_,_,MQ _ _ _ hlt,?_,?_,?_⟩,Mv.mM _ _ _⟩
  · unfold mapUpdate
    simp only[Sem.run_bind,run_underlying ht,Result.andThen_ok,Gw hb,hc,run_findKey L k he,hf,hst,hrun]
  · have:=Gg (enc:=enc) k v l es.toList 0 j x he hf
    simpa[Array.toList_modify]using this
  · intro e hm
    rw[Array.toList_modify]at hm
    obtain⟨i,hi,rfl⟩:=List.mem_iff_getElem.1 hm
    rw[List.getElem_modify]
    have:=hborn (es.toList[i]'(by simpa using hi)) (List.getElem_mem _)
    split <;> exact this
  · have:(es.modify j λe => { e with key:=enc k,val:=v }).toList.map (·.born)=es.toList.map (·.born):=by
     rw[Array.toList_modify]
     apply List.ext_getElem?
     intro i
     simp only[List.getElem?_map,List.getElem?_modify]
     cases es.toList[i]? <;> simp
     split <;> rfl
    rw[this];exact hnd
end
end
section
open Go.RowKit Go.Instr
def vw (c:Int):Bool:=decide (97<=c) && decide (c<=122)
def pG (c:Int):Bool:=decide (48<=c) && decide (c<=57)
def nP (c:Int):Bool:=vw c || pG c
def qX (c:Int):Bool:=((c == 32 || c == 9) || c == 13) || c == 10
def vN (c:Int):Bool:=c != 10
theorem Bh (c:Int) (w:World):Calls Tryz.prog 63 #[.int .u8 c] w λe w'=>e = .returned (.bool (vw c))/\w=w':=by
 go_enter Tryz.func63,Tryz.ntmps63
 go_wp2
 all_goals (go_ret;exact⟨aV (by unfold vw;simp_all <;> omega),rfl⟩)
theorem zH (c:Int) (w:World):Calls Tryz.prog 66 #[.int .u8 c] w λe w'=>e = .returned (.bool (pG c))/\w=w':=by
 go_enter Tryz.func66,Tryz.ntmps66
 go_wp2
 all_goals (go_ret;exact⟨aV (by unfold pG;simp_all <;> omega),rfl⟩)
theorem D8 (c:Int) (w:World):Calls Tryz.prog 67 #[.int .u8 c] w λe w'=>e = .returned (.bool (qX c))/\w=w':=by
 go_enter Tryz.func67,Tryz.ntmps67
 go_wp2
 all_goals (go_ret;exact⟨aV (by unfold qX;simp_all),rfl⟩)
theorem Mh (c:Int) (w:World):Calls Tryz.prog 68 #[.int .u8 c] w λe w'=>e = .returned (.bool (vN c))/\w=w':=by
 go_enter Tryz.func68,Tryz.ntmps68
 go_wp2
 all_goals (go_ret;exact⟨aV (by unfold vN;simp_all),rfl⟩)
theorem Mi (c:Int) (w:World):Calls Tryz.prog 65 #[.int .u8 c] w λe w'=>e = .returned (.bool (nP c))/\w=w':=by
 go_enter Tryz.func65,Tryz.ntmps65
 go_wp2_with (first
  |(go_at_call 63;refine(Bh _ _).mono ?_;rintro e w' ⟨rfl,rfl⟩)
  |(go_at_call 66;refine(zH _ _).mono ?_;rintro e w' ⟨rfl,rfl⟩))
 all_goals (go_ret;exact⟨aV (by unfold nP;simp_all),rfl⟩)
def mI (p:Int->Bool) (l:List UInt8):Nat:=(l.takeWhile λb=>p b.toNat).length
theorem Ei (p:Int->Bool) (l:List UInt8) (k:Nat) (hk:k<l.length) (h:∀ j (hj:j<k),p (l[j].toNat)=true) (hn:p (l[k].toNat)=false):mI p l=k:=by
 induction l generalizing k with
 |nil=>simp at hk
 |cons b l ih =>
  cases k with
  |zero=>simp at hn;simp[mI,hn]
  |succ k =>
   have h0:=h 0 (by omega)
   simp at h0
   have:=ih k (by simpa using hk) (λj hj=>by have:=h (j+1) (by omega);simpa using this) (by simpa using hn)
   simp[mI,h0]at this ⊢
   exact this
theorem D9 (p:Int->Bool) (l:List UInt8) (h:∀ j (hj:j<l.length),p (l[j].toNat)=true):mI p l=l.length:=by
 induction l with
 |nil=>rfl
 |cons b l ih =>
  have h0:=h 0 (by simp)
  simp at h0
  have:=ih (λj hj=>by have:=h (j+1) (by simpa using hj);simpa using this)
  simp[mI,h0]at this ⊢
  exact this
def EC (p:Int->Bool) (s:ByteArray) (k:Nat):Prop:=∀ j (hj:j<s.size),j<k->p (s[j].toNat)=true
set_option maxHeartbeats 800000 in
theorem Ve (s:ByteArray) (w:World) (hs:s.size<=1000000000):Calls Tryz.prog 64 #[.string s,.func (.func 65) #[] #[]] w λe w'=>e = .returned (.int .i64 (mI nP s.data.toList))/\w=w':=by
 go_enter Tryz.func64,Tryz.ntmps64
 go_wp2_with fail
 go_loop [8] (λt=>∃ k:Nat,k<=s.size/\t = .int .i64 k/\Hid (EC nP s k)) (λt=>s.size - (intOf t).toNat)
 case atStart=>exact⟨0,Nat.zero_le _,rfl,Lib.hid (λj _ h=>by omega)⟩
 case round =>
  obtain⟨k,hk,rfl,hu⟩:=hrel
  by_cases hlt:k<s.size
  · by_cases hc:nP (s[k].toNat)=true
    · go_wp2_with fail
      refine(Mi _ _).mono ?_
      rintro e w' ⟨rfl,rfl⟩
      go_wp2_with fail
      go_round
      case rel=>exact⟨k+1,by omega,by go_num,Lib.hid (λj hj h=>by
       rcases Nat.lt_or_ge j k with h1|h1
       · exact hu.out j hj h1
       · obtain rfl:j=k:=by omega
         exact hc)⟩
      case measure=>simp[intOf];omega
    · have hc2:nP (s[k].toNat)=false:=by simpa using hc
      have HF:=Lib.hid (Ei nP s.data.toList k (by simpa using hlt) (λj hj=>hu.out j (by omega) hj) hc2)
      go_wp2_with fail
      refine(Mi _ _).mono ?_
      rintro e w' ⟨rfl,rfl⟩
      go_wp2_with fail
      go_ret
      exact⟨dE (by rw[HF.out]),rfl⟩
  · have hge:s.size<=k:=by omega
    have HF:=Lib.hid (D9 nP s.data.toList (λj hj=>hu.out j (by simpa using hj) (Nat.lt_of_lt_of_le (by simpa using hj) hge)))
    go_wp2_with fail
    go_ret
    exact⟨dE (by rw[HF.out];simp),rfl⟩
set_option maxHeartbeats 800000 in
theorem Vf (s:ByteArray) (w:World) (hs:s.size<=1000000000):Calls Tryz.prog 64 #[.string s,.func (.func 66) #[] #[]] w λe w'=>e = .returned (.int .i64 (mI pG s.data.toList))/\w=w':=by
 go_enter Tryz.func64,Tryz.ntmps64
 go_wp2_with fail
 go_loop [8] (λt=>∃ k:Nat,k<=s.size/\t = .int .i64 k/\Hid (EC pG s k)) (λt=>s.size - (intOf t).toNat)
 case atStart=>exact⟨0,Nat.zero_le _,rfl,Lib.hid (λj _ h=>by omega)⟩
 case round =>
  obtain⟨k,hk,rfl,hu⟩:=hrel
  by_cases hlt:k<s.size
  · by_cases hc:pG (s[k].toNat)=true
    · go_wp2_with fail
      refine(zH _ _).mono ?_
      rintro e w' ⟨rfl,rfl⟩
      go_wp2_with fail
      go_round
      case rel=>exact⟨k+1,by omega,by go_num,Lib.hid (λj hj h=>by
       rcases Nat.lt_or_ge j k with h1|h1
       · exact hu.out j hj h1
       · obtain rfl:j=k:=by omega
         exact hc)⟩
      case measure=>simp[intOf];omega
    · have hc2:pG (s[k].toNat)=false:=by simpa using hc
      have HF:=Lib.hid (Ei pG s.data.toList k (by simpa using hlt) (λj hj=>hu.out j (by omega) hj) hc2)
      go_wp2_with fail
      refine(zH _ _).mono ?_
      rintro e w' ⟨rfl,rfl⟩
      go_wp2_with fail
      go_ret
      exact⟨dE (by rw[HF.out]),rfl⟩
  · have hge:s.size<=k:=by omega
    have HF:=Lib.hid (D9 pG s.data.toList (λj hj=>hu.out j (by simpa using hj) (Nat.lt_of_lt_of_le (by simpa using hj) hge)))
    go_wp2_with fail
    go_ret
    exact⟨dE (by rw[HF.out];simp),rfl⟩
set_option maxHeartbeats 800000 in
theorem Vg (s:ByteArray) (w:World) (hs:s.size<=1000000000):Calls Tryz.prog 64 #[.string s,.func (.func 67) #[] #[]] w λe w'=>e = .returned (.int .i64 (mI qX s.data.toList))/\w=w':=by
 go_enter Tryz.func64,Tryz.ntmps64
 go_wp2_with fail
 go_loop [8] (λt=>∃ k:Nat,k<=s.size/\t = .int .i64 k/\Hid (EC qX s k)) (λt=>s.size - (intOf t).toNat)
 case atStart=>exact⟨0,Nat.zero_le _,rfl,Lib.hid (λj _ h=>by omega)⟩
 case round =>
  obtain⟨k,hk,rfl,hu⟩:=hrel
  by_cases hlt:k<s.size
  · by_cases hc:qX (s[k].toNat)=true
    · go_wp2_with fail
      refine(D8 _ _).mono ?_
      rintro e w' ⟨rfl,rfl⟩
      go_wp2_with fail
      go_round
      case rel=>exact⟨k+1,by omega,by go_num,Lib.hid (λj hj h=>by
       rcases Nat.lt_or_ge j k with h1|h1
       · exact hu.out j hj h1
       · obtain rfl:j=k:=by omega
         exact hc)⟩
      case measure=>simp[intOf];omega
    · have hc2:qX (s[k].toNat)=false:=by simpa using hc
      have HF:=Lib.hid (Ei qX s.data.toList k (by simpa using hlt) (λj hj=>hu.out j (by omega) hj) hc2)
      go_wp2_with fail
      refine(D8 _ _).mono ?_
      rintro e w' ⟨rfl,rfl⟩
      go_wp2_with fail
      go_ret
      exact⟨dE (by rw[HF.out]),rfl⟩
  · have hge:s.size<=k:=by omega
    have HF:=Lib.hid (D9 qX s.data.toList (λj hj=>hu.out j (by simpa using hj) (Nat.lt_of_lt_of_le (by simpa using hj) hge)))
    go_wp2_with fail
    go_ret
    exact⟨dE (by rw[HF.out];simp),rfl⟩
set_option maxHeartbeats 800000 in
theorem We (s:ByteArray) (w:World) (hs:s.size<=1000000000):Calls Tryz.prog 64 #[.string s,.func (.func 68) #[] #[]] w λe w'=>e = .returned (.int .i64 (mI vN s.data.toList))/\w=w':=by
 go_enter Tryz.func64,Tryz.ntmps64
 go_wp2_with fail
 go_loop [8] (λt=>∃ k:Nat,k<=s.size/\t = .int .i64 k/\Hid (EC vN s k)) (λt=>s.size - (intOf t).toNat)
 case atStart=>exact⟨0,Nat.zero_le _,rfl,Lib.hid (λj _ h=>by omega)⟩
 case round =>
  obtain⟨k,hk,rfl,hu⟩:=hrel
  by_cases hlt:k<s.size
  · by_cases hc:vN (s[k].toNat)=true
    · go_wp2_with fail
      refine(Mh _ _).mono ?_
      rintro e w' ⟨rfl,rfl⟩
      go_wp2_with fail
      go_round
      case rel=>exact⟨k+1,by omega,by go_num,Lib.hid (λj hj h=>by
       rcases Nat.lt_or_ge j k with h1|h1
       · exact hu.out j hj h1
       · obtain rfl:j=k:=by omega
         exact hc)⟩
      case measure=>simp[intOf];omega
    · have hc2:vN (s[k].toNat)=false:=by simpa using hc
      have HF:=Lib.hid (Ei vN s.data.toList k (by simpa using hlt) (λj hj=>hu.out j (by omega) hj) hc2)
      go_wp2_with fail
      refine(Mh _ _).mono ?_
      rintro e w' ⟨rfl,rfl⟩
      go_wp2_with fail
      go_ret
      exact⟨dE (by rw[HF.out]),rfl⟩
  · have hge:s.size<=k:=by omega
    have HF:=Lib.hid (D9 vN s.data.toList (λj hj=>hu.out j (by simpa using hj) (Nat.lt_of_lt_of_le (by simpa using hj) hge)))
    go_wp2_with fail
    go_ret
    exact⟨dE (by rw[HF.out];simp),rfl⟩
end
end Go.Proofs.YtbpodipdfohikaaGreat
namespace Go.Proofs
open Go.Shelf
def Tryz.TJ:Go.Shelf.Ren:=⟨fun|137=>92|217=>126|266=>142|n=>n,fun|9=>9|5=>5|3=>3|n=>n,fun|n=>n⟩
theorem Tryz.Xx:Go.Proofs.Lays.n137 Tryz.prog Tryz.TJ := {
 mixed:=by kernel_rfl
 f137:=Tryz.func92.trans (congrArg some (by kernel_rfl))
 f217:=Tryz.func126.trans (congrArg some (by kernel_rfl))
 f266:=Tryz.func142.trans (congrArg some (by kernel_rfl))
 t3:=Tryz.underlying3
 a3:=Tryz.isAgg3
 z3:=Tryz.sizeOf3
 v3:=Tryz.zeroValue3
 t5:=Tryz.underlying5
 a5:=Tryz.isAgg5
 z5:=Tryz.sizeOf5
 v5:=Tryz.zeroValue5
 t9:=Tryz.underlying9
 a9:=Tryz.isAgg9
 z9:=Tryz.sizeOf9
 v9:=Tryz.zeroValue9 }
open Go.RowKit in
theorem Tryz.strings_IndexByte (s:ByteArray) (c:Int) (w:World) :
 Calls Tryz.prog 92 #[.string s,.int .u8 c] w λe w'=>e = .returned (.int .i64 (Lib.indexByte s.data.toList c.toNat.toUInt8))/\w'=w:=Any.strings_IndexByte Tryz.Xx s c w
def Tryz.TK:Go.Shelf.Ren:=⟨fun|217=>126|266=>142|n=>n,fun|9=>9|5=>5|3=>3|n=>n,fun|n=>n⟩
theorem Tryz.Xy:Go.Proofs.Lays.n217 Tryz.prog Tryz.TK := {
 mixed:=by kernel_rfl
 f217:=Tryz.func126.trans (congrArg some (by kernel_rfl))
 f266:=Tryz.func142.trans (congrArg some (by kernel_rfl))
 t3:=Tryz.underlying3
 a3:=Tryz.isAgg3
 z3:=Tryz.sizeOf3
 v3:=Tryz.zeroValue3
 t5:=Tryz.underlying5
 a5:=Tryz.isAgg5
 z5:=Tryz.sizeOf5
 v5:=Tryz.zeroValue5
 t9:=Tryz.underlying9
 a9:=Tryz.isAgg9
 z9:=Tryz.sizeOf9
 v9:=Tryz.zeroValue9 }
open Go.RowKit Go.Lib in
theorem Tryz.stringslite_IndexByte (s:ByteArray) (c:Int) (w:World) :
 Calls Tryz.prog 126 #[.string s,.int .u8 c] w λe w'=>e = .returned (.int .i64 (Lib.indexByte s.data.toList c.toNat.toUInt8))/\w'=w:=Any.stringslite_IndexByte Tryz.Xy s c w
def Tryz.TL:Go.Shelf.Ren:=⟨fun|206=>125|n=>n,fun|9=>9|4=>4|3=>3|n=>n,fun|n=>n⟩
theorem Tryz.Xz:Go.Proofs.Lays.n206 Tryz.prog Tryz.TL := {
 mixed:=by kernel_rfl
 f206:=Tryz.func125.trans (congrArg some (by kernel_rfl))
 t3:=Tryz.underlying3
 a3:=Tryz.isAgg3
 z3:=Tryz.sizeOf3
 v3:=Tryz.zeroValue3
 t4:=Tryz.underlying4
 a4:=Tryz.isAgg4
 z4:=Tryz.sizeOf4
 v4:=Tryz.zeroValue4
 t9:=Tryz.underlying9
 a9:=Tryz.isAgg9
 z9:=Tryz.sizeOf9
 v9:=Tryz.zeroValue9 }
open Go.RowKit Go.Lib in
theorem Tryz.stringslite_HasPrefix (s p:ByteArray) (w:World) :
 Calls Tryz.prog 125 #[.string s,.string p] w λe w'=>e = .returned (.bool (Lib.hasPrefix s.data.toList p.data.toList))/\w'=w:=Any.stringslite_HasPrefix Tryz.Xz s p w
def Tryz.Uo:Go.Shelf.Ren:=⟨fun|99=>91|206=>125|n=>n,fun|9=>9|4=>4|3=>3|n=>n,fun|n=>n⟩
theorem Tryz.Yg:Go.Proofs.Lays.n99 Tryz.prog Tryz.Uo := {
 mixed:=by kernel_rfl
 f99:=Tryz.func91.trans (congrArg some (by kernel_rfl))
 f206:=Tryz.func125.trans (congrArg some (by kernel_rfl))
 t3:=Tryz.underlying3
 a3:=Tryz.isAgg3
 z3:=Tryz.sizeOf3
 v3:=Tryz.zeroValue3
 t4:=Tryz.underlying4
 a4:=Tryz.isAgg4
 z4:=Tryz.sizeOf4
 v4:=Tryz.zeroValue4
 t9:=Tryz.underlying9
 a9:=Tryz.isAgg9
 z9:=Tryz.sizeOf9
 v9:=Tryz.zeroValue9 }
open Go.RowKit Go.Lib in
theorem Tryz.strings_HasPrefix (s p:ByteArray) (w:World) :
 Calls Tryz.prog 91 #[.string s,.string p] w λe w'=>e = .returned (.bool (Lib.hasPrefix s.data.toList p.data.toList))/\w'=w:=Any.strings_HasPrefix Tryz.Yg s p w
def Tryz.TM:Go.Shelf.Ren:=⟨fun|112=>24|n=>n,fun|28=>22|3=>3|4=>4|0=>0|n=>n,fun|n=>n⟩
theorem Tryz.Eu:Go.Proofs.Lays.n112 Tryz.prog Tryz.TM := {
 mixed:=by kernel_rfl
 f112:=Tryz.func24.trans (congrArg some (by kernel_rfl))
 t0:=Tryz.underlying0
 a0:=Tryz.isAgg0
 z0:=Tryz.sizeOf0
 v0:=Tryz.zeroValue0
 t3:=Tryz.underlying3
 a3:=Tryz.isAgg3
 z3:=Tryz.sizeOf3
 v3:=Tryz.zeroValue3
 t4:=Tryz.underlying4
 a4:=Tryz.isAgg4
 z4:=Tryz.sizeOf4
 v4:=Tryz.zeroValue4
 t28:=Tryz.underlying22
 a28:=Tryz.isAgg22
 z28:=Tryz.sizeOf22
 v28:=Tryz.zeroValue22 }
open Go.RowKit Go.Lib Go.Sort in
theorem Tryz.slices_Reverse_int_arr (blk off cap:Nat) (d:Array Int) (w:World) (hH:Holds encI w blk off d) (hsz:d.size<=9223372036854775807) :
 Calls Tryz.prog 24 #[.slice (some ⟨blk,off,none⟩) d.size cap] w λe w'=>e = .returned (.tuple #[])/\∃ n,w'=putRow encI (Sort.ahead w n) blk off d.reverse:=Any.slices_Reverse_int_arr Tryz.Eu blk off cap d w hH hsz
open Go.RowKit Go.Lib Go.Sort in
theorem Tryz.slices_Reverse_int (blk off cap:Nat) (zs:List Int) (w:World) (hH:Holds (Value.int .i64) w blk off zs.toArray) (hsz:zs.length<=9223372036854775807) :
 Calls Tryz.prog 24 #[.slice (some ⟨blk,off,none⟩) zs.length cap] w λe w'=>e = .returned (.tuple #[])/\∃ n,w'=putRow (Value.int .i64) (Sort.ahead w n) blk off zs.reverse.toArray:=Any.slices_Reverse_int Tryz.Eu blk off cap zs w hH hsz
open Go.RowKit Go.Lib Go.Sort in
theorem Tryz.slices_Reverse_int_empty (a:Option Addr) (cap:Nat) (w:World) :
 Calls Tryz.prog 24 #[.slice a 0 cap] w λe w'=>e = .returned (.tuple #[])/\w'=w:=Any.slices_Reverse_int_empty Tryz.Eu a cap w
def Tryz.Tn:Go.Shelf.Ren:=⟨fun|15=>22|n=>n,fun|22=>22|3=>3|4=>4|n=>n,fun|n=>n⟩
theorem Tryz.Gx:Go.Proofs.Lays2.n15 Tryz.prog Tryz.Tn := {
 mixed:=by kernel_rfl
 f15:=Tryz.func22.trans (congrArg some (by kernel_rfl))
 t3:=Tryz.underlying3
 a3:=Tryz.isAgg3
 z3:=Tryz.sizeOf3
 v3:=Tryz.zeroValue3
 t4:=Tryz.underlying4
 a4:=Tryz.isAgg4
 z4:=Tryz.sizeOf4
 v4:=Tryz.zeroValue4
 t22:=Tryz.underlying22
 a22:=Tryz.isAgg22
 z22:=Tryz.sizeOf22
 v22:=Tryz.zeroValue22
 i3:=by kernel_rfl }
open Go.RowKit Go.Lib in
theorem Tryz.slices_Clone_int (b off n c:Nat) (zs:List Int) (w:World) (hz:n<=zs.length) (hbig:n * 8<=140737488355328) (hc:∀ j,j<zs.length->w.cell? ⟨b,off+j,none⟩=some (.int .i64 (zs.getD j 0))) :
 Calls Tryz.prog 22 #[.slice (some ⟨b,off,none⟩) n c] w λe w'=>∃ v',e = .returned v'/\w'.ownsRow w.heap.size 3 1 v' n ((zs.take n).map (Value.int .i64))/\v' ≠ .slice none 0 0/\Below w.heap.size w w':=Any.slices_Clone_int Tryz.Gx b off n c zs w hz hbig hc
open Go.RowKit Go.Lib in
theorem Tryz.slices_Clone_int_nil (n c:Nat) (w:World) :
 Calls Tryz.prog 22 #[.slice none n c] w λe w'=>e = .returned (.slice none 0 0)/\w'=w:=Any.slices_Clone_int_nil Tryz.Gx n c w
open Go.RowKit Go.Lib in
theorem Tryz.slices_Clone_int_zero (a:Addr) (c:Nat) (w:World) :
 Calls Tryz.prog 22 #[.slice (some a) 0 c] w λe w'=>∃ v',e = .returned v'/\w'.ownsRow w.heap.size 3 1 v' 0 []/\v' ≠ .slice none 0 0/\Below w.heap.size w w':=Any.slices_Clone_int_zero Tryz.Gx a c w
def Tryz.Tp:Go.Shelf.Ren:=⟨fun|23=>171|n=>n,fun|22=>22|3=>3|4=>4|0=>0|n=>n,fun|n=>n⟩
theorem Tryz.Ea:Go.Proofs.Lays2.n23 Tryz.prog Tryz.Tp := {
 mixed:=by kernel_rfl
 f23:=Tryz.func171.trans (congrArg some (by kernel_rfl))
 t0:=Tryz.underlying0
 a0:=Tryz.isAgg0
 z0:=Tryz.sizeOf0
 v0:=Tryz.zeroValue0
 t3:=Tryz.underlying3
 a3:=Tryz.isAgg3
 z3:=Tryz.sizeOf3
 v3:=Tryz.zeroValue3
 t4:=Tryz.underlying4
 a4:=Tryz.isAgg4
 z4:=Tryz.sizeOf4
 v4:=Tryz.zeroValue4
 t22:=Tryz.underlying22
 a22:=Tryz.isAgg22
 z22:=Tryz.sizeOf22
 v22:=Tryz.zeroValue22
 i3:=by kernel_rfl }
open Go.RowKit Go.Lib Go.Sort in
theorem Tryz.slices_Delete_int_arr (blk off cap i j:Nat) (d:Array Int) (w:World) (hH:Holds encI w blk off d) (hcap:d.size<=cap) (hm:cap<=9223372036854775807) (hij:i<=j) (hj:j<=d.size) :
 Calls Tryz.prog 171 #[.slice (some ⟨blk,off,none⟩) d.size cap,.int .i64 i,.int .i64 j] w λe w'=>e = .returned (.slice (some ⟨blk,off,none⟩) (d.size - (j - i)) cap)/\∃ q,w'=putRow encI (Sort.ahead w q) blk off (d.toList.take i ++ d.toList.drop j ++ List.replicate (j - i) 0).toArray:=Any.slices_Delete_int_arr Tryz.Ea blk off cap i j d w hH hcap hm hij hj
open Go.RowKit Go.Lib Go.Sort in
theorem Tryz.slices_Delete_int (blk off cap i j:Nat) (zs:List Int) (w:World) (hH:Holds (Value.int .i64) w blk off zs.toArray) (hcap:zs.length<=cap) (hm:cap<=9223372036854775807) (hij:i<=j) (hj:j<=zs.length) :
 Calls Tryz.prog 171 #[.slice (some ⟨blk,off,none⟩) zs.length cap,.int .i64 i,.int .i64 j] w λe w'=>e = .returned (.slice (some ⟨blk,off,none⟩) (zs.length - (j - i)) cap)/\∃ q,w'=putRow (Value.int .i64) (Sort.ahead w q) blk off (zs.take i ++ zs.drop j ++ List.replicate (j - i) 0).toArray:=Any.slices_Delete_int Tryz.Ea blk off cap i j zs w hH hcap hm hij hj
open Go.RowKit Go.Lib Go.Sort in
theorem Tryz.slices_Reverse_int_cells (b off n c:Nat) (zs:List Int) (w:World) (hz:n<=zs.length) (hbig:n<=9223372036854775807) (hc:∀ j,j<zs.length->w.cell? ⟨b,off+j,none⟩=some (.int .i64 (zs.getD j 0))) (hf:∀ j,j<n->w.frozen? ⟨b,off+j,none⟩=false) :
 Calls Tryz.prog 24 #[.slice (some ⟨b,off,none⟩) n c] w λe w'=>e = .returned (.tuple #[])/\∃ q,w'=(w.drewN q).setCells b off ((zs.take n).reverse.map (Value.int .i64)):=Any.slices_Reverse_int_cells Tryz.Eu b off n c zs w hz hbig hc hf
open Go.RowKit Go.Lib Go.Sort in
theorem Tryz.slices_Delete_int_cells (b off n c i j:Nat) (zs:List Int) (w:World) (hz:n<=zs.length) (hcap:n<=c) (hm:c<=9223372036854775807) (hij:i<=j) (hj:j<=n) (hc:∀ j,j<zs.length->w.cell? ⟨b,off+j,none⟩=some (.int .i64 (zs.getD j 0))) (hf:∀ j,j<n->w.frozen? ⟨b,off+j,none⟩=false) :
 Calls Tryz.prog 171 #[.slice (some ⟨b,off,none⟩) n c,.int .i64 i,.int .i64 j] w λe w'=>e = .returned (.slice (some ⟨b,off,none⟩) (n - (j - i)) c)/\∃ q,w'=(w.drewN q).setCells b off (((zs.take n).take i ++ (zs.take n).drop j ++ List.replicate (j - i) 0).map (Value.int .i64)):=Any.slices_Delete_int_cells Tryz.Ea b off n c i j zs w hz hcap hm hij hj hc hf
open Go.RowKit Go.Lib in
theorem Tryz.slices_Delete_int_empty (a:Option Addr) (c:Nat) (w:World) :
 Calls Tryz.prog 171 #[.slice a 0 c,.int .i64 0,.int .i64 0] w λe w'=>e = .returned (.slice a 0 c)/\w'=w:=Any.slices_Delete_int_empty Tryz.Ea a c w
end Go.Proofs
namespace Go.Proofs.YtbpodipdfohikaaGreat
end Go.Proofs.YtbpodipdfohikaaGreat
