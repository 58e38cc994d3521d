import Derived.Lib.Hide
import Derived.Test.YtadecgbblajifaaGreatDoorRows
import Derived.Test.YtadecgbblajifaaGreatDoorCards
import Derived.Test.YtadecgbblajifaaGreatDoorTie
import Derived.WalkKit
import Derived.ProofKit
import Derived.HandedShaped
import Derived.SevenTiedAt
import Derived.JoinedOf
import Derived.WalkSpells
import Derived.WalkLawsBesides
import Derived.Laws.EntriesVeiled
import Derived.Deep.QuietTactic
import Derived.BigQuiet
set_option linter.unusedSimpArgs false
set_option linter.unusedVariables false
set_option linter.unusedSectionVars false
set_option maxRecDepth 100000
set_option maxHeartbeats 25600000
namespace Go.Proofs.YtadecgbblajifaaGreatDoor
section
theorem ł {p : Prop} (h : p) : Go.RowKit.Hid p := h
end
end Go.Proofs.YtadecgbblajifaaGreatDoor
namespace Go.Proofs.YtadecgbblajifaaGreatDoor.objectAny
open Go.ChangeShapes Go.WideShapes Go.ChangeAt Go.RowKit
theorem Ku : Tryz.prog.funcNamed "backstep/backsteplaw29.ObjectAny" = some 7 := by kernel_rfl
theorem U7:joinedFacts Tryz.pinned.checked.prog 7 Tryz.f7 Rows.objectAnySpec Rows.objectAnyRow=true:=by kernel_rfl
theorem Xj:Tryz.f7.isInstance Tryz.pinned.checked.prog Rows.objectAnyRow.origin Rows.objectAnyRow.targs:=of_decide_eq_true (by kernel_rfl)
theorem Xk:Tryz.f7.isWrapper Tryz.pinned.checked.prog Rows.objectAnyRow.wrapper Rows.objectAnyRow.mainSum:=by unfold Func.isWrapper;first|(rw[if_pos (by decide +kernel)];kernel_rfl)|(rw[if_neg (by decide +kernel)];exact⟨rfl,rfl⟩)
theorem Xl:Tryz.pinned.checked.prog.mainIs=some (true,Rows.objectAnyCard.stood.harness.2.toList):=by kernel_rfl
theorem Wy:true=Tryz.pinned.checked.prog.looks []:=by kernel_rfl
theorem Wz:([51].all λu => !Tryz.pinned.checked.prog.wantsStandIn u)=true:=by kernel_rfl
theorem Xm:false=Rows.objectAnyRow.goesBy Tryz.pinned.checked.prog:=by kernel_rfl
theorem ZA:Rows.objectAnyRow.wfByText (OpenSpec.ofChange Rows.objectAnySpec)=true:=by kernel_rfl
end Go.Proofs.YtadecgbblajifaaGreatDoor.objectAny
namespace Go.Proofs.YtadecgbblajifaaGreatDoor
section
open Go.RowKit
structure Mv (O:Nat->Prop) (w w':World):Prop where
 os:w'.os=w.os
 tape:w'.tape=w.tape
 output:w'.output=w.output
 size:w.heap.size<=w'.heap.size
 block:∀ b,b<w.heap.size->¬ O b->w'.heap[b]? = w.heap[b]?
theorem Mv.refl (O:Nat->Prop) (w:World):Mv O w w:=⟨rfl,rfl,rfl,Nat.le_refl _,λ_ _ _=>rfl⟩
theorem Mv.trans {O O1:Nat->Prop} {a b c:World} (h:Mv O a b) (k:Mv O1 b c) (hs:∀ x,O1 x->O x\/a.heap.size<=x):Mv O a c :=
 ⟨k.os.trans h.os,k.tape.trans h.tape,k.output.trans h.output,Nat.le_trans h.size k.size,λi hi hn =>
  (k.block i (Nat.lt_of_lt_of_le hi h.size) (λe=>by rcases hs i e with h1|h1;exact hn h1;omega)).trans (h.block i hi hn)⟩
theorem Mv.mono {O O1:Nat->Prop} {a b:World} (h:Mv O a b) (hs:∀ x,O x->O1 x\/a.heap.size<=x):Mv O1 a b :=
 ⟨h.os,h.tape,h.output,h.size,λi hi hn=>h.block i hi (λe=>by rcases hs i e with h1|h1;exact hn h1;omega)⟩
theorem Mv.alloc {O:Nat->Prop} {a w:World} (h:Mv O a w) (o:Obj):Mv O a (w.alloc o) :=
 h.trans (O1:=λ_=>False) ⟨rfl,rfl,rfl,by simp,λk hk _=>Below.heap_alloc w o k hk⟩ (λ_ e=>e.elim)
theorem Mv.drew {O:Nat->Prop} {a w:World} (h:Mv O a w):Mv O a w.drew:=⟨h.os,h.tape,h.output,h.size,h.block⟩
theorem Mv.setCell {O:Nat->Prop} {a w:World} (h:Mv O a w) {p:Addr} (hp:O p.block\/a.heap.size<=p.block) (u:Value):Mv O a (w.setCell p u) :=
 h.trans (O1:=λx=>x=p.block) ⟨rfl,rfl,rfl,by simp,λk _ hn=>Below.heap_setCell _ _ _ _ hn⟩ (λx e=>by subst e;exact hp)
theorem Mv.grown {O:Nat->Prop} {a w w':World} {row:Option Nat} (h:Mv O a w) (hg:w.grownBy w' row) (hr:∀ k,row=some k->O k\/a.heap.size<=k):Mv O a w' :=
 h.trans (O1:=λx=>row=some x) ⟨hg.os,hg.tape,hg.output,hg.size,λk hk hn=>hg.block k hk (λe=>hn e.symm)⟩ (λx e=>hr x e)
theorem Hy {P:Program} (w:World) (base:Nat) (t ty e:TypeId) (i:TypeInfo) (z:Value) (size bytes:Nat) (ht:P.underlying t=some (.slice e)) (hi:P.info? e=some i) (hz:i.zero=some z)
 (hsize:i.size=size) (hby:i.bytes=bytes) (hzs:z.cells.size=size) (hsz:0<size)
 (v:Value) (n:Nat) (xs:List Value) (hown:w.ownsRow base e size v n xs)
 (a:Addr) (m c:Nat) (news:List Value) (hl:news.length=m * size) (hnews:∀ j u,news[j]? = some u->w.cell? (a.add j)=some u) (h1:∀ u∈news,u.oneCell'=true)
 (h63:n+m<=maxLen) (hbytes:(n+m) * bytes<=140737488355328) (hbase:base<=w.heap.size) :
 ∃ v' w',(Builtin.append_ #[t,t] ty #[v,.slice (some a) m c]).run P w = .ok v' w'/\w'.ownsRow base e size v' (n+m) (xs ++ news)/\w.grownBy w' v.ownBlock /\
  (v' = .slice none 0 0↔v = .slice none 0 0/\m=0)/\(∀ g,v'.ownBlock=some g->v.ownBlock=some g\/w.heap.size<=g):=by
 obtain⟨v',w',hr,h2,h3,h4⟩:=run_append_own (P:=P) w base t ty e i z size bytes ht hi hz hsize hby hzs hsz v n xs hown a m c news hl hnews h1 h63 hbytes hbase;refine⟨v',w',hr,h2,h3,h4,?_⟩;rcases hown.2 with⟨rfl,rfl⟩|⟨g,cap,cur,rfl,hbg,hg,hnc,hcm,hcs,htake⟩
 · have hx:xs=[]:=List.eq_nil_of_length_eq_zero (by simpa using hown.1);subst hx;obtain⟨v2,w2,hr2,h22,_⟩:=run_append_own (P:=P) w w.heap.size t ty e i z size bytes ht hi hz hsize hby hzs hsz (.slice none 0 0) 0 [] (World.ownsRow_nil _ _ _ _) a m c news hl hnews h1 h63 hbytes (Nat.le_refl _);rw[hr]at hr2;simp only[Result.ok.injEq]at hr2;obtain⟨rfl,rfl⟩:=hr2;exact λg hg => .inr (h22.lt g hg).1
 · subst hsize;by_cases hroom:n+m<=cap
   · have hfit:n * i.size+news.length<=cur.size:=by rw[hl,hcs,← Nat.add_mul];exact Nat.mul_le_mul_right _ hroom
     have hr2:=run_append_room (P:=P) w t ty e i ht hi g n cap cur hg a m c news hl hnews h1 hroom hfit;rw[hr]at hr2;simp only[Result.ok.injEq]at hr2;obtain⟨rfl,rfl⟩:=hr2;exact λg' hg' => .inl (by simpa[Value.ownBlock]using hg')
   · have holds:∀ j u,xs[j]? = some u->w.cell? ((⟨g,0,none⟩:Addr).add j)=some u:=hown.cells (g:=g) rfl;subst hby
     have hsmall:n+m<=9223372036854775807:=by simp only[maxLen]at h63;omega
     have hr2:=run_append_grow (P:=P) w t ty e i z ht hi hz ⟨g,0,none⟩ n cap xs hown.1 holds a m c news hl hnews (by omega) (by omega) (growslice_fits (by omega) hbytes);rw[hr]at hr2;simp only[Result.ok.injEq]at hr2;obtain⟨rfl,rfl⟩:=hr2;exact λg' hg' => .inr (by simp[Value.ownBlock]at hg';omega)
end
section
open Go.RowKit Go.Instr
def iI (w:World) (r:Nat) (o:Obj):World := { w with heap:=w.heap.setIfInBounds r o }
theorem bytes_beq (a b:ByteArray):(a == b)=decide (a=b):=by
 cases a with|mk x=>cases b with|mk y =>
 show(x == y)=_
 by_cases h:x=y
 · subst h;simp
 · have h1:(x == y)=false:=by simpa using h
   have h2:¬ (⟨x⟩:ByteArray)=⟨y⟩:=λe=>h (by simpa using congrArg ByteArray.data e);simp[h1,h2]
instance:LawfulBEq ByteArray where
 eq_of_beq:=by intro a b h;rw[bytes_beq]at h;exact of_decide_eq_true h
 rfl:=by intro a;rw[bytes_beq];simp
theorem CG {P:Program} {w:World} {r:Nat} {es:Array MapEntry} {c:Nat} (hb:w.heap[r]? = some (.map es c)):(getObj r).run P w = .ok (.map es c) w:=by simp[getObj,Sem.run,hb]
theorem Tt {P:Program} {w:World} {r:Nat} {es:Array MapEntry} {c:Nat} (o':Obj) (hb:w.heap[r]? = some (.map es c)):(setObj r o').run P w = .ok () (iI w r o'):=by simp[setObj,Sem.run,hb,iI]
structure KeyLaw (P:Program) (K:TypeId) {κ:Type} [BEq κ] [LawfulBEq κ] (enc:κ->Value) (desc:TypeDesc):Prop where
 hu:P.underlying K=some desc
 same:∀ a b:κ,sameNow desc (enc a) (enc b)=some (a == b)
 check:∀ (e:Bool) (n:Nat) (a:κ) (w:World),(checkKey e (n+1) K (enc a)).run P w = .ok () w
 bits:∀ a:κ,sameBits 10000 (enc a) (enc a)=true
theorem U8 {P:Program} {K:TypeId} (hu:P.underlying K=some .string):KeyLaw P K Value.string .string:=by
 refine⟨hu,λa b=>rfl,λe n a w => ?_,λa=>by simp[sameBits]⟩;simp[checkKey,run_underlying hu]
theorem U9 {P:Program} {K:TypeId} (hu:P.underlying K=some (.int .i64)):KeyLaw P K (Value.int .i64) (.int .i64):=by
 refine⟨hu,λa b=>by simp[sameNow],λe n a w => ?_,λa=>by simp[sameBits]⟩;simp[checkKey,run_underlying hu]
section
variable {κ:Type} [BEq κ] [LawfulBEq κ]
def dD (k:κ):List (κ × Value)->Nat->Option (Nat × Value)
 | [],_=>none
 |(a,x) :: l,i=>if k == a then some (i,x)else dD k l (i+1)
def wD (l:List (κ × Value)) (k:κ):Option Value:=(dD k l 0).map (·.2)
def gz (k:κ) (v:Value):List (κ × Value)->List (κ × Value)
 | []=>[(k,v)]
 |(a,x) :: l=>if k == a then(k,v) :: l else(a,x) :: gz k v l
def dJ (enc:κ->Value) (l:List (κ × Value)) (es:List MapEntry):Prop:=es.map (λe=>(e.key,e.val))=l.map (λp=>(enc p.1,p.2))
theorem dJ.cons {enc:κ->Value} {p:κ × Value} {l:List (κ × Value)} {es:List MapEntry} (h:dJ enc (p :: l) es):∃ e r,es=e :: r/\e.key=enc p.1/\e.val=p.2/\dJ enc l r:=by
 cases es with
 |nil=>simp[dJ]at h
 |cons e r=>simp[dJ]at h;exact⟨e,r,rfl,h.1.1,h.1.2,by simpa[dJ]using h.2⟩
theorem Je {P:Program} {K:TypeId} {enc:κ->Value} {desc:TypeDesc} (L:KeyLaw P K enc desc) (k:κ):∀ (l:List (κ × Value)) (es:List MapEntry) (i:Nat),dJ enc l es->findNow desc (enc k) es i=some (dD k l i)
 | [],es,i,h=>by
  have:es=[]:=by simpa[dJ]using h
  subst this;rfl
 |(a,x) :: l,es,i,h=>by
  obtain⟨e,r,rfl,h1,h2,h3⟩:=h.cons;simp only[findNow,h1,L.same,dD];cases hka:k == a
  · simp only[Bool.false_eq_true,if_false];exact Je L k l r (i+1) h3
  · simp only[if_true,h2]
theorem yY (k:κ):∀ (l:List (κ × Value)) (i j:Nat) (v:Value),dD k l i=some (j,v)->i<=j/\j<i+l.length
 | [],i,j,v,h=>by simp[dD]at h
 |(a,x) :: l,i,j,v,h=>by
  simp only[dD]at h;split at h
  · simp at h;obtain⟨rfl,_⟩:=h;simp
  · have:=yY k l (i+1) j v h;simp;omega
def MapAt (enc:κ->Value) (w:World) (r:Nat) (l:List (κ × Value)):Prop :=
 ∃ es clock,w.heap[r]? = some (.map es clock)/\dJ enc l es.toList/\(∀ e∈es.toList,e.born<clock)/\(es.toList.map (·.born)).Nodup
theorem MapAt.lt {enc:κ->Value} {w:World} {r:Nat} {l:List (κ × Value)} (h:MapAt enc w r l):r<w.heap.size:=by
 obtain⟨es,clock,hb,_⟩:=h;rcases Nat.lt_or_ge r w.heap.size with h' | h'
 · exact h'
 · rw[Array.getElem?_eq_none h']at hb;cases hb
theorem MapAt.keep {enc:κ->Value} {w w':World} {r:Nat} {l:List (κ × Value)} (h:MapAt enc w r l) (hw:w'.heap[r]? = w.heap[r]?):MapAt enc w' r l:=by
 obtain⟨es,clock,hb,rest⟩:=h;exact⟨es,clock,by rw[hw];exact hb,rest⟩
theorem MapAt.new (enc:κ->Value) (w:World):MapAt enc (w.alloc (.map #[] 0)) w.heap.size []:=⟨#[],0,heap_alloc_new w _,by simp[dJ],by simp,by simp⟩
theorem Mv.iI (w:World) (r:Nat) (o:Obj):Mv (λb=>b=r) w (iI w r o):=by
 refine⟨rfl,rfl,rfl,by simp[YtadecgbblajifaaGreatDoor.iI],λb _ hne => ?_⟩;have:r≠b:=λe=>hne e.symm;simp[YtadecgbblajifaaGreatDoor.iI,this]
theorem JJ (w:World) (r:Nat) (o:Obj) (h:r<w.heap.size):(iI w r o).heap[r]? = some o:=by simp[iI,h]
variable {P:Program} {K T E:TypeId} {enc:κ->Value} {desc:TypeDesc} {w:World} {r:Nat} {l:List (κ × Value)}
theorem run_findKey (L:KeyLaw P K enc desc) (k:κ) {es:Array MapEntry} (h:dJ enc l es.toList):(findKey K (enc k) es.toList).run P w = .ok (dD k l 0) w:=by
 simp only[findKey,Sem.run_bind,run_underlying L.hu,Result.andThen_ok,Je L k l es.toList 0 h,Sem.run_pure]
theorem run_get (L:KeyLaw P K enc desc) (ht:P.underlying T=some (.map K E)) (k:κ) (z:Value) (hz:∀ w,(zeroValue E).run P w = .ok z w) (h:MapAt enc w r l) :
 (lookup T (.map (some r)) (enc k) false).run P w = .ok ((wD l k).getD z) w:=by
 obtain⟨es,clock,hb,he,_⟩:=h;unfold lookup;simp only[Sem.run_bind,run_underlying ht,Result.andThen_ok,CG hb,Sem.run_pure,L.check,run_findKey L k he];unfold wD;cases dD k l 0 with
 |none=>simp[hz]
 |some p=>simp
theorem Cv (k:κ) (v:Value):∀ (l:List (κ × Value)) (es:List MapEntry) (i j:Nat) (x:Value),dJ enc l es->dD k l i=some (j,x)->dJ enc (gz k v l) (es.modify (j - i) λe => { e with key:=enc k,val:=v })
 | [],es,i,j,x,_,h=>by simp[dD]at h
 |(a,y) :: l,es,i,j,x,he,h=>by
  obtain⟨e,r,rfl,h1,h2,h3⟩:=he.cons;simp only[dD]at h;simp only[gz];cases hka:k == a
  · simp only[hka,Bool.false_eq_true,if_false]at h ⊢;have hge:=(yY k l (i+1) j x h).1;have:=Cv k v l r (i+1) j x h3 h;rw[show j - i=j - (i+1)+1 by omega,List.modify_succ_cons];simp[dJ,h1,h2]at this ⊢;exact this
  · simp only[hka,if_true]at h ⊢;simp at h;obtain⟨rfl,_⟩:=h;simp[dJ]at h3 ⊢;exact h3
theorem IL (k:κ) (v:Value) (n:Nat):∀ (l:List (κ × Value)) (es:List MapEntry) (i:Nat),dJ enc l es->dD k l i=none->dJ enc (gz k v l) (es ++ [{ key:=enc k,val:=v,born:=n }])
 | [],es,i,he,_=>by
  have:es=[]:=by simpa[dJ]using he
  subst this;simp[dJ,gz]
 |(a,y) :: l,es,i,he,h=>by
  obtain⟨e,r,rfl,h1,h2,h3⟩:=he.cons;simp only[dD]at h;simp only[gz];cases hka:k == a
  · simp only[hka,Bool.false_eq_true,if_false]at h ⊢;have:=IL k v n l r (i+1) h3 h;simp[dJ,h1,h2]at this ⊢;exact this
  · simp[hka]at h
theorem run_set (L:KeyLaw P K enc desc) (ht:P.underlying T=some (.map K E)) (k:κ) (v:Value) (h:MapAt enc w r l) :
 ∃ w',(mapUpdate T (.map (some r)) (enc k) v).run P w = .ok () w'/\MapAt enc w' r (gz k v l)/\Mv (λb=>b=r) w w':=by
 have hlt:=h.lt;obtain⟨es,clock,hb,he,hborn,hnd⟩:=h;have hrun:∀ o,(setObj r o).run P w = .ok () (iI w r o):=λo=>Tt o hb;have hc:=L.check false 9999 k w;cases hf:dD k l 0 with
 |none =>
  refine⟨iI w r (.map (es.push { key:=enc k,val:=v,born:=clock }) (clock+1)),?_,⟨_,_,JJ _ _ _ hlt,?_,?_,?_⟩,Mv.iI _ _ _⟩
  · unfold mapUpdate;simp only[Sem.run_bind,run_underlying ht,Result.andThen_ok,CG hb,hc,run_findKey L k he,hf,hrun]
  · simpa using IL k v clock l es.toList 0 he hf
  · intro e hm;simp at hm;rcases hm with hm|rfl
    · have:=hborn e (by simpa using hm);omega
    · simp
  · simp only[Array.toList_push,List.map_append,List.map_cons,List.map_nil];refine List.nodup_append.2 ⟨hnd,by simp,?_⟩;intro a ha b hb';simp at hb';subst hb';obtain⟨e,hm,rfl⟩:=List.mem_map.1 ha;have:=hborn e hm;omega
 |some p =>
  obtain⟨j,x⟩:=p;have hj:=(yY k l 0 j x hf).2;have hlen:es.toList.length=l.length:=by
   have:=congrArg List.length he
   simpa using this
  have hkey:((es[j]?).map (·.key)).getD (enc k)=enc k:=by
   have h1:=Cv (enc:=enc) k v l es.toList 0 j x he hf;have ZB:j<es.size:=by simp at hlen;omega
   have h2:=congrArg (λt=>t[j]?) he;simp only[List.getElem?_map]at h2;have hl:∀ (l:List (κ × Value)) (i:Nat),dD k l i=some (j,x)->∃ p,l[j - i]? = some p/\k=p.1:=by
    intro l
    induction l with
    |nil=>intro i h;simp[dD]at h
    |cons p l ih =>
     intro i h;obtain⟨a,y⟩:=p;simp only[dD]at h;cases hka:k == a
     · simp only[hka,Bool.false_eq_true,if_false]at h;have hge:=(yY k l (i+1) j x h).1;obtain⟨p,h1,h2⟩:=ih (i+1) h;exact⟨p,by rw[show j - i=j - (i+1)+1 by omega,List.getElem?_cons_succ];exact h1,h2⟩
     · simp only[hka,if_true]at h;simp at h;obtain⟨rfl,_⟩:=h;exact⟨(a,y),by simp,by simpa using hka⟩
   obtain⟨p,h3,h4⟩:=hl l 0 hf;simp only[Nat.sub_zero]at h3;rw[h3]at h2;have h5:es[j]? = some es[j]:=Array.getElem?_eq_getElem ZB;have h6:es.toList[j]? = some es[j]:=by simp
   rw[h6]at h2;simp at h2;rw[h5];simp[h2.1,h4]
  have hst:(keyThatStays (((es[j]?).map (·.key)).getD (enc k)) (enc k)).run P w = .ok (enc k) w:=by
   rw[hkey];simp[keyThatStays,L.bits]
  refine⟨iI w r (.map (es.modify j λe => { e with key:=enc k,val:=v }) clock),?_,⟨_,_,JJ _ _ _ hlt,?_,?_,?_⟩,Mv.iI _ _ _⟩
  · unfold mapUpdate;simp only[Sem.run_bind,run_underlying ht,Result.andThen_ok,CG hb,hc,run_findKey L k he,hf,hst,hrun]
  · have:=Cv (enc:=enc) k v l es.toList 0 j x he hf
    simpa[Array.toList_modify]using this
  · intro e hm;rw[Array.toList_modify]at hm;obtain⟨i,hi,rfl⟩:=List.mem_iff_getElem.1 hm;rw[List.getElem_modify];have:=hborn (es.toList[i]'(by simpa using hi)) (List.getElem_mem _);split <;> exact this
  · have:(es.modify j λe => { e with key:=enc k,val:=v }).toList.map (·.born)=es.toList.map (·.born):=by
     rw[Array.toList_modify];apply List.ext_getElem?;intro i;simp only[List.getElem?_map,List.getElem?_modify];cases es.toList[i]? <;> simp;split <;> rfl
    rw[this];exact hnd
end
end
section
open Go.RowKit
noncomputable def oh (P:Program) (t ty:TypeId) (v s:Value) (w:World):Value :=
 match (Builtin.append_ #[t,t] ty #[v,s]).run P w with
 |.ok x _=>x
 |_=>undef
noncomputable def appW (P:Program) (t ty:TypeId) (v s:Value) (w:World):World :=
 match (Builtin.append_ #[t,t] ty #[v,s]).run P w with
 |.ok _ y=>y
 |_=>w
def sO (P:Program) (t ty:TypeId) (v s:Value) (w:World):Prop:=∃ x y,(Builtin.append_ #[t,t] ty #[v,s]).run P w = .ok x y
theorem Va {P:Program} {t ty:TypeId} {v s:Value} {w:World} (h:sO P t ty v s w):(Builtin.append_ #[t,t] ty #[v,s]).run P w = .ok (oh P t ty v s w) (appW P t ty v s w):=by
 obtain⟨x,y,h⟩:=h;simp only[oh,appW,h]
theorem jG {P:Program} {ρ:Operand->Value} {d:Option Tmp} {s x:Operand} {t ty:TypeId} {pos:String} {af:Array Edge} {gd:Option (Nat × Bool)} {w:World} (h:sO P t ty (ρ s) (ρ x) w) :
 (execOp ρ { dst:=d,op := .call { callee := .builtin .append,args:=#[s,x],argTypes:=#[t,t] },type:=ty,pos:=pos,after:=af,guard:=gd }).run P w = .ok (.value (oh P t ty (ρ s) (ρ x) w)) (appW P t ty (ρ s) (ρ x) w):=by
 have hr:=Va h;unfold execOp;simp only[resolve,invoke,builtin,Sem.run_bind,Sem.run_pure,Result.andThen_ok,List.map_toArray,List.map_cons,List.map_nil,hr]
theorem DF {P:Program} {t ty:TypeId} {v s x:Value} {w y:World} (h:(Builtin.append_ #[t,t] ty #[v,s]).run P w = .ok x y):sO P t ty v s w/\oh P t ty v s w=x/\appW P t ty v s w=y :=
 ⟨⟨x,y,h⟩,by simp only[oh,h],by simp only[appW,h]⟩
end
section
open Go.RowKit
structure Ins where
 op:Int
 a:Int
 b:Int
 c:Int
 d:Int
def Ins.cells (i:Ins):List Value:=[.int .u8 i.op,.int .i64 i.a,.int .i64 i.b,.int .i64 i.c,.int .i64 i.d]
abbrev Ins.val (i:Ins):Value := .agg #[.int .u8 i.op,.int .i64 i.a,.int .i64 i.b,.int .i64 i.c,.int .i64 i.d]
def iO (op:Int):Bool:=op == 22 || (op == 23 || op == 24)
def jo (op:Int):Bool:=op == 25 || (op == 26 || op == 27)
def Gi (op:Int):Bool:=op == 22 || (op == 25 || (op == 30 || (op == 31 || (op == 32 || op == 33))))
def Gj (op:Int):Bool:=op == 23 || (op == 24 || (op == 26 || op == 27))
def Ins.target (i:Ins):Int:=if Gi i.op then i.a else if Gj i.op then i.b else 0
def Ins.Fe (i:Ins):Bool:=Gi i.op || Gj i.op
theorem aC {a b:Bool} (h:a=b):Ending.returned (.bool a) = .returned (.bool b):=by rw[h]
theorem dM {k:IntKind} {a b:Int} (h:a=b):Ending.returned (.int k a) = .returned (.int k b):=by rw[h]
theorem Iu (op:Int) (w:World):Calls Tryz.prog 126 #[.int .u8 op] w λe w'=>e = .returned (.bool (iO op))/\w=w':=by
 go_enter Tryz.func126,Tryz.ntmps126
 go_wp2
 all_goals (go_ret;exact⟨aC (by unfold iO;simp_all),rfl⟩)
theorem Ib (op:Int) (w:World):Calls Tryz.prog 127 #[.int .u8 op] w λe w'=>e = .returned (.bool (jo op))/\w=w':=by
 go_enter Tryz.func127,Tryz.ntmps127
 go_wp2
 all_goals (go_ret;exact⟨aC (by unfold jo;simp_all),rfl⟩)
theorem Iw (i:Ins) (w:World):Calls Tryz.prog 128 #[i.val] w λe w'=>e = .returned (.tuple #[.int .i64 i.target,.bool i.Fe])/\Mv (λ_=>False) w w':=by
 obtain⟨op,a,b,c,d⟩:=i;have HM:=ł ((Mv.refl (λ_=>False) w).alloc (.cells #[.int .u8 op,.int .i64 a,.int .i64 b,.int .i64 c,.int .i64 d] 69))
 go_enter Tryz.func128,Tryz.ntmps128
 go_wp2
 all_goals (go_ret2;refine⟨?_,HM.out⟩;simp_all [Ins.target,Ins.Fe,Gi,Gj])
def gB (x:Int):Bool:=decide (0<=x) && decide (x<16)
def qJ (x:Int):Bool:=decide (0<=x) && decide (x<=16384)
def Ac (x:Int):Bool:=decide (0<=x) && decide (x<65536)
def Ff (x:Int):Bool:=decide (8<=x) && decide (x<=23)
theorem RQ (x:Int) (w:World):Calls Tryz.prog 122 #[.int .i64 x] w λe w'=>e = .returned (.bool (gB x))/\w=w':=by
 go_enter Tryz.func122,Tryz.ntmps122
 go_wp2
 all_goals (go_ret;exact⟨aC (by unfold gB;simp_all <;> omega),rfl⟩)
theorem Sw (x:Int) (w:World):Calls Tryz.prog 124 #[.int .i64 x] w λe w'=>e = .returned (.bool (qJ x))/\w=w':=by
 go_enter Tryz.func124,Tryz.ntmps124
 go_wp2
 all_goals (go_ret;exact⟨aC (by unfold qJ;simp_all <;> omega),rfl⟩)
theorem Tu (x:Int) (w:World):Calls Tryz.prog 125 #[.int .i64 x] w λe w'=>e = .returned (.bool (Ac x))/\w=w':=by
 go_enter Tryz.func125,Tryz.ntmps125
 go_wp2
 all_goals (go_ret;exact⟨aC (by unfold Ac;simp_all <;> omega),rfl⟩)
theorem RU (x:Int) (w:World):Calls Tryz.prog 123 #[.int .i64 x] w λe w'=>e = .returned (.bool (Ff x))/\w=w':=by
 go_enter Tryz.func123,Tryz.ntmps123
 go_wp2
 all_goals (go_ret;exact⟨aC (by unfold Ff;simp_all <;> omega),rfl⟩)
end
section
open Go.RowKit Go.Instr
def om (c:Int):Bool:=decide (97<=c) && decide (c<=122)
def jQ (c:Int):Bool:=decide (48<=c) && decide (c<=57)
def jb (c:Int):Bool:=om c || jQ c
def kZ (c:Int):Bool:=((c == 32 || c == 9) || c == 13) || c == 10
def oV (c:Int):Bool:=c != 10
theorem uU (c:Int) (w:World):Calls Tryz.prog 129 #[.int .u8 c] w λe w'=>e = .returned (.bool (om c))/\w=w':=by
 go_enter Tryz.func129,Tryz.ntmps129
 go_wp2
 all_goals (go_ret;exact⟨aC (by unfold om;simp_all <;> omega),rfl⟩)
theorem rV (c:Int) (w:World):Calls Tryz.prog 132 #[.int .u8 c] w λe w'=>e = .returned (.bool (jQ c))/\w=w':=by
 go_enter Tryz.func132,Tryz.ntmps132
 go_wp2
 all_goals (go_ret;exact⟨aC (by unfold jQ;simp_all <;> omega),rfl⟩)
theorem yQ (c:Int) (w:World):Calls Tryz.prog 133 #[.int .u8 c] w λe w'=>e = .returned (.bool (kZ c))/\w=w':=by
 go_enter Tryz.func133,Tryz.ntmps133
 go_wp2
 all_goals (go_ret;exact⟨aC (by unfold kZ;simp_all),rfl⟩)
theorem Jf (c:Int) (w:World):Calls Tryz.prog 134 #[.int .u8 c] w λe w'=>e = .returned (.bool (oV c))/\w=w':=by
 go_enter Tryz.func134,Tryz.ntmps134
 go_wp2
 all_goals (go_ret;exact⟨aC (by unfold oV;simp_all),rfl⟩)
theorem Jg (c:Int) (w:World):Calls Tryz.prog 131 #[.int .u8 c] w λe w'=>e = .returned (.bool (jb c))/\w=w':=by
 go_enter Tryz.func131,Tryz.ntmps131
 go_wp2_with (first
  |(go_at_call 129;refine(uU _ _).mono ?_;rintro e w' ⟨rfl,rfl⟩)
  |(go_at_call 132;refine(rV _ _).mono ?_;rintro e w' ⟨rfl,rfl⟩))
 all_goals (go_ret;exact⟨aC (by unfold jb;simp_all),rfl⟩)
def iE (p:Int->Bool) (l:List UInt8):Nat:=(l.takeWhile λb=>p b.toNat).length
theorem yZ (p:Int->Bool) (l:List UInt8) (k:Nat) (hk:k<l.length) (h:∀ j (hj:j<k),p (l[j].toNat)=true) (hn:p (l[k].toNat)=false):iE p l=k:=by
 induction l generalizing k with
 |nil=>simp at hk
 |cons b l ih =>
  cases k with
  |zero=>simp at hn;simp[iE,hn]
  |succ k =>
   have h0:=h 0 (by omega);simp at h0;have:=ih k (by simpa using hk) (λj hj=>by have:=h (j+1) (by omega);simpa using this) (by simpa using hn);simp[iE,h0]at this ⊢;exact this
theorem yR (p:Int->Bool) (l:List UInt8) (h:∀ j (hj:j<l.length),p (l[j].toNat)=true):iE p l=l.length:=by
 induction l with
 |nil=>rfl
 |cons b l ih =>
  have h0:=h 0 (by simp);simp at h0;have:=ih (λj hj=>by have:=h (j+1) (by simpa using hj);simpa using this);simp[iE,h0]at this ⊢;exact this
def zD (p:Int->Bool) (s:ByteArray) (k:Nat):Prop:=∀ j (hj:j<s.size),j<k->p (s[j].toNat)=true
theorem Tv (s:ByteArray) (w:World) (hs:s.size<=1000000000):Calls Tryz.prog 130 #[.string s,.func (.func 131) #[] #[]] w λe w'=>e = .returned (.int .i64 (iE jb s.data.toList))/\w=w':=by
 go_enter Tryz.func130,Tryz.ntmps130
 go_wp2_with fail
 go_loop [8] (λt=>∃ k:Nat,k<=s.size/\t = .int .i64 k/\Hid (zD jb s k)) (λt=>s.size - (intOf t).toNat)
 case atStart=>exact⟨0,Nat.zero_le _,rfl,ł (λj _ h=>by omega)⟩
 case round =>
  obtain⟨k,hk,rfl,hu⟩:=hrel;by_cases hlt:k<s.size
  · by_cases hc:jb (s[k].toNat)=true
    · go_wp2_with fail;refine(Jg _ _).mono ?_;rintro e w' ⟨rfl,rfl⟩;go_wp2_with fail
      go_round
      case rel=>exact⟨k+1,by omega,by go_num,ł (λj hj h=>by
       rcases Nat.lt_or_ge j k with h1|h1
       · exact hu.out j hj h1
       · obtain rfl:j=k:=by omega
         exact hc)⟩
      case measure=>simp[intOf];omega
    · have hc2:jb (s[k].toNat)=false:=by simpa using hc
      have HF:=ł (yZ jb s.data.toList k (by simpa using hlt) (λj hj=>hu.out j (by omega) hj) hc2);go_wp2_with fail;refine(Jg _ _).mono ?_;rintro e w' ⟨rfl,rfl⟩;go_wp2_with fail;go_ret;exact⟨dM (by rw[HF.out]),rfl⟩
  · have hge:s.size<=k:=by omega
    have HF:=ł (yR jb s.data.toList (λj hj=>hu.out j (by simpa using hj) (Nat.lt_of_lt_of_le (by simpa using hj) hge)));go_wp2_with fail;go_ret;exact⟨dM (by rw[HF.out];simp),rfl⟩
theorem Tw (s:ByteArray) (w:World) (hs:s.size<=1000000000):Calls Tryz.prog 130 #[.string s,.func (.func 132) #[] #[]] w λe w'=>e = .returned (.int .i64 (iE jQ s.data.toList))/\w=w':=by
 go_enter Tryz.func130,Tryz.ntmps130
 go_wp2_with fail
 go_loop [8] (λt=>∃ k:Nat,k<=s.size/\t = .int .i64 k/\Hid (zD jQ s k)) (λt=>s.size - (intOf t).toNat)
 case atStart=>exact⟨0,Nat.zero_le _,rfl,ł (λj _ h=>by omega)⟩
 case round =>
  obtain⟨k,hk,rfl,hu⟩:=hrel;by_cases hlt:k<s.size
  · by_cases hc:jQ (s[k].toNat)=true
    · go_wp2_with fail;refine(rV _ _).mono ?_;rintro e w' ⟨rfl,rfl⟩;go_wp2_with fail
      go_round
      case rel=>exact⟨k+1,by omega,by go_num,ł (λj hj h=>by
       rcases Nat.lt_or_ge j k with h1|h1
       · exact hu.out j hj h1
       · obtain rfl:j=k:=by omega
         exact hc)⟩
      case measure=>simp[intOf];omega
    · have hc2:jQ (s[k].toNat)=false:=by simpa using hc
      have HF:=ł (yZ jQ s.data.toList k (by simpa using hlt) (λj hj=>hu.out j (by omega) hj) hc2);go_wp2_with fail;refine(rV _ _).mono ?_;rintro e w' ⟨rfl,rfl⟩;go_wp2_with fail;go_ret;exact⟨dM (by rw[HF.out]),rfl⟩
  · have hge:s.size<=k:=by omega
    have HF:=ł (yR jQ s.data.toList (λj hj=>hu.out j (by simpa using hj) (Nat.lt_of_lt_of_le (by simpa using hj) hge)));go_wp2_with fail;go_ret;exact⟨dM (by rw[HF.out];simp),rfl⟩
theorem Tx (s:ByteArray) (w:World) (hs:s.size<=1000000000):Calls Tryz.prog 130 #[.string s,.func (.func 133) #[] #[]] w λe w'=>e = .returned (.int .i64 (iE kZ s.data.toList))/\w=w':=by
 go_enter Tryz.func130,Tryz.ntmps130
 go_wp2_with fail
 go_loop [8] (λt=>∃ k:Nat,k<=s.size/\t = .int .i64 k/\Hid (zD kZ s k)) (λt=>s.size - (intOf t).toNat)
 case atStart=>exact⟨0,Nat.zero_le _,rfl,ł (λj _ h=>by omega)⟩
 case round =>
  obtain⟨k,hk,rfl,hu⟩:=hrel;by_cases hlt:k<s.size
  · by_cases hc:kZ (s[k].toNat)=true
    · go_wp2_with fail;refine(yQ _ _).mono ?_;rintro e w' ⟨rfl,rfl⟩;go_wp2_with fail
      go_round
      case rel=>exact⟨k+1,by omega,by go_num,ł (λj hj h=>by
       rcases Nat.lt_or_ge j k with h1|h1
       · exact hu.out j hj h1
       · obtain rfl:j=k:=by omega
         exact hc)⟩
      case measure=>simp[intOf];omega
    · have hc2:kZ (s[k].toNat)=false:=by simpa using hc
      have HF:=ł (yZ kZ s.data.toList k (by simpa using hlt) (λj hj=>hu.out j (by omega) hj) hc2);go_wp2_with fail;refine(yQ _ _).mono ?_;rintro e w' ⟨rfl,rfl⟩;go_wp2_with fail;go_ret;exact⟨dM (by rw[HF.out]),rfl⟩
  · have hge:s.size<=k:=by omega
    have HF:=ł (yR kZ s.data.toList (λj hj=>hu.out j (by simpa using hj) (Nat.lt_of_lt_of_le (by simpa using hj) hge)));go_wp2_with fail;go_ret;exact⟨dM (by rw[HF.out];simp),rfl⟩
theorem Uc (s:ByteArray) (w:World) (hs:s.size<=1000000000):Calls Tryz.prog 130 #[.string s,.func (.func 134) #[] #[]] w λe w'=>e = .returned (.int .i64 (iE oV s.data.toList))/\w=w':=by
 go_enter Tryz.func130,Tryz.ntmps130
 go_wp2_with fail
 go_loop [8] (λt=>∃ k:Nat,k<=s.size/\t = .int .i64 k/\Hid (zD oV s k)) (λt=>s.size - (intOf t).toNat)
 case atStart=>exact⟨0,Nat.zero_le _,rfl,ł (λj _ h=>by omega)⟩
 case round =>
  obtain⟨k,hk,rfl,hu⟩:=hrel;by_cases hlt:k<s.size
  · by_cases hc:oV (s[k].toNat)=true
    · go_wp2_with fail;refine(Jf _ _).mono ?_;rintro e w' ⟨rfl,rfl⟩;go_wp2_with fail
      go_round
      case rel=>exact⟨k+1,by omega,by go_num,ł (λj hj h=>by
       rcases Nat.lt_or_ge j k with h1|h1
       · exact hu.out j hj h1
       · obtain rfl:j=k:=by omega
         exact hc)⟩
      case measure=>simp[intOf];omega
    · have hc2:oV (s[k].toNat)=false:=by simpa using hc
      have HF:=ł (yZ oV s.data.toList k (by simpa using hlt) (λj hj=>hu.out j (by omega) hj) hc2);go_wp2_with fail;refine(Jf _ _).mono ?_;rintro e w' ⟨rfl,rfl⟩;go_wp2_with fail;go_ret;exact⟨dM (by rw[HF.out]),rfl⟩
  · have hge:s.size<=k:=by omega
    have HF:=ł (yR oV s.data.toList (λj hj=>hu.out j (by simpa using hj) (Nat.lt_of_lt_of_le (by simpa using hj) hge)));go_wp2_with fail;go_ret;exact⟨dM (by rw[HF.out];simp),rfl⟩
end
end Go.Proofs.YtadecgbblajifaaGreatDoor
