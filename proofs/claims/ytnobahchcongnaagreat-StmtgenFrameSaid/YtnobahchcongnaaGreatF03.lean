import Derived.Test.YtnobahchcongnaaGreatF02
import Derived.Shelf.Small.Strs
import Derived.Shelf.Strings.Search1
import Derived.Shelf.Strings.Prefix
import Derived.Ground.Names2Prog
import Derived.Shelf.Slices.Clone
import Derived.Ground.SlgnProg
import Derived.Shelf.SlicesE.Clone
import Derived.Test.YtnobahchcongnaaGreatProg
set_option linter.unusedSimpArgs false
set_option linter.unusedVariables false
set_option linter.unusedSectionVars false
set_option maxRecDepth 100000
set_option maxHeartbeats 25600000
namespace Go.Proofs.YtnobahchcongnaaGreat
section
open Go.RowKit Go.Instr
def qz (w:World) (r:Nat) (o:Obj):World := { w with heap:=w.heap.setIfInBounds r o }
theorem bytes_beq (a b:ByteArray):(a == b)=decide (a=b):=by
 cases a with|mk x=>cases b with|mk y =>
 show(x == y)=_
 by_cases h:x=y
 · subst h;simp
 · have h1:(x == y)=false:=by simpa using h
   have h2:¬ (⟨x⟩:ByteArray)=⟨y⟩:=λe=>h (by simpa using congrArg ByteArray.data e);simp[h1,h2]
instance:LawfulBEq ByteArray where
 eq_of_beq:=by intro a b h;rw[bytes_beq]at h;exact of_decide_eq_true h
 rfl:=by intro a;rw[bytes_beq];simp
theorem Jj {P:Program} {w:World} {r:Nat} {es:Array MapEntry} {c:Nat} (hb:w.heap[r]? = some (.map es c)):(getObj r).run P w = .ok (.map es c) w:=by simp[getObj,Sem.run,hb]
theorem XM {P:Program} {w:World} {r:Nat} {es:Array MapEntry} {c:Nat} (o':Obj) (hb:w.heap[r]? = some (.map es c)):(setObj r o').run P w = .ok () (qz w r o'):=by simp[setObj,Sem.run,hb,qz]
structure KeyLaw (P:Program) (K:TypeId) {κ:Type} [BEq κ] [LawfulBEq κ] (enc:κ->Value) (desc:TypeDesc):Prop where
 hu:P.underlying K=some desc
 same:∀ a b:κ,sameNow desc (enc a) (enc b)=some (a == b)
 check:∀ (e:Bool) (n:Nat) (a:κ) (w:World),(checkKey e (n+1) K (enc a)).run P w = .ok () w
 bits:∀ a:κ,sameBits 10000 (enc a) (enc a)=true
theorem Zr {P:Program} {K:TypeId} (hu:P.underlying K=some .string):KeyLaw P K Value.string .string:=by
 refine⟨hu,λa b=>rfl,λe n a w => ?_,λa=>by simp[sameBits]⟩;simp[checkKey,run_underlying hu]
section
variable {κ:Type} [BEq κ] [LawfulBEq κ]
def il (k:κ):List (κ × Value)->Nat->Option (Nat × Value)
 | [],_=>none
 |(a,x) :: l,i=>if k == a then some (i,x)else il k l (i+1)
def vX (l:List (κ × Value)) (k:κ):Option Value:=(il k l 0).map (·.2)
def lI (k:κ) (v:Value):List (κ × Value)->List (κ × Value)
 | []=>[(k,v)]
 |(a,x) :: l=>if k == a then(k,v) :: l else(a,x) :: lI k v l
def kU (enc:κ->Value) (l:List (κ × Value)) (es:List MapEntry):Prop:=es.map (λe=>(e.key,e.val))=l.map (λp=>(enc p.1,p.2))
theorem kU.cons {enc:κ->Value} {p:κ × Value} {l:List (κ × Value)} {es:List MapEntry} (h:kU enc (p :: l) es):∃ e r,es=e :: r/\e.key=enc p.1/\e.val=p.2/\kU enc l r:=by
 cases es with
 |nil=>simp[kU]at h
 |cons e r=>simp[kU]at h;exact⟨e,r,rfl,h.1.1,h.1.2,by simpa[kU]using h.2⟩
theorem Pw {P:Program} {K:TypeId} {enc:κ->Value} {desc:TypeDesc} (L:KeyLaw P K enc desc) (k:κ):∀ (l:List (κ × Value)) (es:List MapEntry) (i:Nat),kU enc l es->findNow desc (enc k) es i=some (il k l i)
 | [],es,i,h=>by
  have:es=[]:=by simpa[kU]using h
  subst this;rfl
 |(a,x) :: l,es,i,h=>by
  obtain⟨e,r,rfl,h1,h2,h3⟩:=h.cons;simp only[findNow,h1,L.same,il];cases hka:k == a
  · simp only[Bool.false_eq_true,if_false];exact Pw L k l r (i+1) h3
  · simp only[if_true,h2]
theorem ER (k:κ):∀ (l:List (κ × Value)) (i j:Nat) (v:Value),il k l i=some (j,v)->i<=j/\j<i+l.length
 | [],i,j,v,h=>by simp[il]at h
 |(a,x) :: l,i,j,v,h=>by
  simp only[il]at h;split at h
  · simp at h;obtain⟨rfl,_⟩:=h;simp
  · have:=ER k l (i+1) j v h;simp;omega
def MapAt (enc:κ->Value) (w:World) (r:Nat) (l:List (κ × Value)):Prop :=
 ∃ es clock,w.heap[r]? = some (.map es clock)/\kU enc l es.toList/\(∀ e∈es.toList,e.born<clock)/\(es.toList.map (·.born)).Nodup
theorem MapAt.lt {enc:κ->Value} {w:World} {r:Nat} {l:List (κ × Value)} (h:MapAt enc w r l):r<w.heap.size:=by
 obtain⟨es,clock,hb,_⟩:=h;rcases Nat.lt_or_ge r w.heap.size with h' | h'
 · exact h'
 · rw[Array.getElem?_eq_none h']at hb;cases hb
theorem MapAt.keep {enc:κ->Value} {w w':World} {r:Nat} {l:List (κ × Value)} (h:MapAt enc w r l) (hw:w'.heap[r]? = w.heap[r]?):MapAt enc w' r l:=by
 obtain⟨es,clock,hb,rest⟩:=h;exact⟨es,clock,by rw[hw];exact hb,rest⟩
theorem MapAt.new (enc:κ->Value) (w:World):MapAt enc (w.alloc (.map #[] 0)) w.heap.size []:=⟨#[],0,heap_alloc_new w _,by simp[kU],by simp,by simp⟩
theorem Mv.qz (w:World) (r:Nat) (o:Obj):Mv (λb=>b=r) w (qz w r o):=by
 refine⟨rfl,rfl,rfl,by simp[YtnobahchcongnaaGreat.qz],λb _ hne => ?_⟩;have:r≠b:=λe=>hne e.symm;simp[YtnobahchcongnaaGreat.qz,this]
theorem Qf (w:World) (r:Nat) (o:Obj) (h:r<w.heap.size):(qz w r o).heap[r]? = some o:=by simp[qz,h]
variable {P:Program} {K T E:TypeId} {enc:κ->Value} {desc:TypeDesc} {w:World} {r:Nat} {l:List (κ × Value)}
theorem run_findKey (L:KeyLaw P K enc desc) (k:κ) {es:Array MapEntry} (h:kU enc l es.toList):(findKey K (enc k) es.toList).run P w = .ok (il k l 0) w:=by
 simp only[findKey,Sem.run_bind,run_underlying L.hu,Result.andThen_ok,Pw L k l es.toList 0 h,Sem.run_pure]
theorem run_get (L:KeyLaw P K enc desc) (ht:P.underlying T=some (.map K E)) (k:κ) (z:Value) (hz:∀ w,(zeroValue E).run P w = .ok z w) (h:MapAt enc w r l) :
 (lookup T (.map (some r)) (enc k) false).run P w = .ok ((vX l k).getD z) w:=by
 obtain⟨es,clock,hb,he,_⟩:=h;unfold lookup;simp only[Sem.run_bind,run_underlying ht,Result.andThen_ok,Jj hb,Sem.run_pure,L.check,run_findKey L k he];unfold vX;cases il k l 0 with
 |none=>simp[hz]
 |some p=>simp
theorem IC (k:κ) (v:Value):∀ (l:List (κ × Value)) (es:List MapEntry) (i j:Nat) (x:Value),kU enc l es->il k l i=some (j,x)->kU enc (lI k v l) (es.modify (j - i) λe => { e with key:=enc k,val:=v })
 | [],es,i,j,x,_,h=>by simp[il]at h
 |(a,y) :: l,es,i,j,x,he,h=>by
  obtain⟨e,r,rfl,h1,h2,h3⟩:=he.cons;simp only[il]at h;simp only[lI];cases hka:k == a
  · simp only[hka,Bool.false_eq_true,if_false]at h ⊢;have hge:=(ER k l (i+1) j x h).1;have:=IC k v l r (i+1) j x h3 h;rw[show j - i=j - (i+1)+1 by omega,List.modify_succ_cons];simp[kU,h1,h2]at this ⊢;exact this
  · simp only[hka,if_true]at h ⊢;simp at h;obtain⟨rfl,_⟩:=h;simp[kU]at h3 ⊢;exact h3
theorem OI (k:κ) (v:Value) (n:Nat):∀ (l:List (κ × Value)) (es:List MapEntry) (i:Nat),kU enc l es->il k l i=none->kU enc (lI k v l) (es ++ [{ key:=enc k,val:=v,born:=n }])
 | [],es,i,he,_=>by
  have:es=[]:=by simpa[kU]using he
  subst this;simp[kU,lI]
 |(a,y) :: l,es,i,he,h=>by
  obtain⟨e,r,rfl,h1,h2,h3⟩:=he.cons;simp only[il]at h;simp only[lI];cases hka:k == a
  · simp only[hka,Bool.false_eq_true,if_false]at h ⊢;have:=OI k v n l r (i+1) h3 h;simp[kU,h1,h2]at this ⊢;exact this
  · simp[hka]at h
theorem run_set (L:KeyLaw P K enc desc) (ht:P.underlying T=some (.map K E)) (k:κ) (v:Value) (h:MapAt enc w r l) :
 ∃ w',(mapUpdate T (.map (some r)) (enc k) v).run P w = .ok () w'/\MapAt enc w' r (lI k v l)/\Mv (λb=>b=r) w w':=by
 have hlt:=h.lt;obtain⟨es,clock,hb,he,hborn,hnd⟩:=h;have hrun:∀ o,(setObj r o).run P w = .ok () (qz w r o):=λo=>XM o hb;have hc:=L.check false 9999 k w;cases hf:il k l 0 with
 |none =>
  refine⟨qz w r (.map (es.push { key:=enc k,val:=v,born:=clock }) (clock+1)),?_,⟨_,_,Qf _ _ _ hlt,?_,?_,?_⟩,Mv.qz _ _ _⟩
  · unfold mapUpdate;simp only[Sem.run_bind,run_underlying ht,Result.andThen_ok,Jj hb,hc,run_findKey L k he,hf,hrun]
  · simpa using OI k v clock l es.toList 0 he hf
  · intro e hm;simp at hm;rcases hm with hm|rfl
    · have:=hborn e (by simpa using hm);omega
    · simp
  · simp only[Array.toList_push,List.map_append,List.map_cons,List.map_nil];refine List.nodup_append.2 ⟨hnd,by simp,?_⟩;intro a ha b hb';simp at hb';subst hb';obtain⟨e,hm,rfl⟩:=List.mem_map.1 ha;have:=hborn e hm;omega
 |some p =>
  obtain⟨j,x⟩:=p;have hj:=(ER k l 0 j x hf).2;have hlen:es.toList.length=l.length:=by
   have:=congrArg List.length he
   simpa using this
  have hkey:((es[j]?).map (·.key)).getD (enc k)=enc k:=by
   have h1:=IC (enc:=enc) k v l es.toList 0 j x he hf;have qO:j<es.size:=by simp at hlen;omega
   have h2:=congrArg (λt=>t[j]?) he;simp only[List.getElem?_map]at h2;have hl:∀ (l:List (κ × Value)) (i:Nat),il k l i=some (j,x)->∃ p,l[j - i]? = some p/\k=p.1:=by
    intro l
    induction l with
    |nil=>intro i h;simp[il]at h
    |cons p l ih =>
     intro i h;obtain⟨a,y⟩:=p;simp only[il]at h;cases hka:k == a
     · simp only[hka,Bool.false_eq_true,if_false]at h;have hge:=(ER k l (i+1) j x h).1;obtain⟨p,h1,h2⟩:=ih (i+1) h;exact⟨p,by rw[show j - i=j - (i+1)+1 by omega,List.getElem?_cons_succ];exact h1,h2⟩
     · simp only[hka,if_true]at h;simp at h;obtain⟨rfl,_⟩:=h;exact⟨(a,y),by simp,by simpa using hka⟩
   obtain⟨p,h3,h4⟩:=hl l 0 hf;simp only[Nat.sub_zero]at h3;rw[h3]at h2;have h5:es[j]? = some es[j]:=Array.getElem?_eq_getElem qO;have h6:es.toList[j]? = some es[j]:=by simp
   rw[h6]at h2;simp at h2;rw[h5];simp[h2.1,h4]
  have hst:(keyThatStays (((es[j]?).map (·.key)).getD (enc k)) (enc k)).run P w = .ok (enc k) w:=by
   rw[hkey];simp[keyThatStays,L.bits]
  refine⟨qz w r (.map (es.modify j λe => { e with key:=enc k,val:=v }) clock),?_,⟨_,_,Qf _ _ _ hlt,?_,?_,?_⟩,Mv.qz _ _ _⟩
  · unfold mapUpdate;simp only[Sem.run_bind,run_underlying ht,Result.andThen_ok,Jj hb,hc,run_findKey L k he,hf,hst,hrun]
  · have:=IC (enc:=enc) k v l es.toList 0 j x he hf
    simpa[Array.toList_modify]using this
  · intro e hm;rw[Array.toList_modify]at hm;obtain⟨i,hi,rfl⟩:=List.mem_iff_getElem.1 hm;rw[List.getElem_modify];have:=hborn (es.toList[i]'(by simpa using hi)) (List.getElem_mem _);split <;> exact this
  · have:(es.modify j λe => { e with key:=enc k,val:=v }).toList.map (·.born)=es.toList.map (·.born):=by
     rw[Array.toList_modify];apply List.ext_getElem?;intro i;simp only[List.getElem?_map,List.getElem?_modify];cases es.toList[i]? <;> simp;split <;> rfl
    rw[this];exact hnd
end
end
section
open Go.RowKit Go.Instr
def xZ (c:Int):Bool:=decide (97<=c) && decide (c<=122)
def sM (c:Int):Bool:=decide (48<=c) && decide (c<=57)
def rM (c:Int):Bool:=xZ c || sM c
def uM (c:Int):Bool:=((c == 32 || c == 9) || c == 13) || c == 10
def yw (c:Int):Bool:=c != 10
theorem BJ (c:Int) (w:World):Calls Tryz.prog 65 #[.int .u8 c] w λe w'=>e = .returned (.bool (xZ c))/\w=w':=by
 go_enter Tryz.func65,Tryz.ntmps65
 go_wp2
 all_goals (go_ret;exact⟨aL (by unfold xZ;simp_all <;> omega),rfl⟩)
theorem Aw (c:Int) (w:World):Calls Tryz.prog 68 #[.int .u8 c] w λe w'=>e = .returned (.bool (sM c))/\w=w':=by
 go_enter Tryz.func68,Tryz.ntmps68
 go_wp2
 all_goals (go_ret;exact⟨aL (by unfold sM;simp_all <;> omega),rfl⟩)
theorem EB (c:Int) (w:World):Calls Tryz.prog 69 #[.int .u8 c] w λe w'=>e = .returned (.bool (uM c))/\w=w':=by
 go_enter Tryz.func69,Tryz.ntmps69
 go_wp2
 all_goals (go_ret;exact⟨aL (by unfold uM;simp_all),rfl⟩)
theorem Px (c:Int) (w:World):Calls Tryz.prog 70 #[.int .u8 c] w λe w'=>e = .returned (.bool (yw c))/\w=w':=by
 go_enter Tryz.func70,Tryz.ntmps70
 go_wp2
 all_goals (go_ret;exact⟨aL (by unfold yw;simp_all),rfl⟩)
theorem Py (c:Int) (w:World):Calls Tryz.prog 67 #[.int .u8 c] w λe w'=>e = .returned (.bool (rM c))/\w=w':=by
 go_enter Tryz.func67,Tryz.ntmps67
 go_wp2_with (first
  |(go_at_call 65;refine(BJ _ _).mono ?_;rintro e w' ⟨rfl,rfl⟩)
  |(go_at_call 68;refine(Aw _ _).mono ?_;rintro e w' ⟨rfl,rfl⟩))
 all_goals (go_ret;exact⟨aL (by unfold rM;simp_all),rfl⟩)
def qp (p:Int->Bool) (l:List UInt8):Nat:=(l.takeWhile λb=>p b.toNat).length
theorem ES (p:Int->Bool) (l:List UInt8) (k:Nat) (hk:k<l.length) (h:∀ j (hj:j<k),p (l[j].toNat)=true) (hn:p (l[k].toNat)=false):qp p l=k:=by
 induction l generalizing k with
 |nil=>simp at hk
 |cons b l ih =>
  cases k with
  |zero=>simp at hn;simp[qp,hn]
  |succ k =>
   have h0:=h 0 (by omega);simp at h0;have:=ih k (by simpa using hk) (λj hj=>by have:=h (j+1) (by omega);simpa using this) (by simpa using hn);simp[qp,h0]at this ⊢;exact this
theorem EC (p:Int->Bool) (l:List UInt8) (h:∀ j (hj:j<l.length),p (l[j].toNat)=true):qp p l=l.length:=by
 induction l with
 |nil=>rfl
 |cons b l ih =>
  have h0:=h 0 (by simp);simp at h0;have:=ih (λj hj=>by have:=h (j+1) (by simpa using hj);simpa using this);simp[qp,h0]at this ⊢;exact this
def FE (p:Int->Bool) (s:ByteArray) (k:Nat):Prop:=∀ j (hj:j<s.size),j<k->p (s[j].toNat)=true
theorem XN (s:ByteArray) (w:World) (hs:s.size<=1000000000):Calls Tryz.prog 66 #[.string s,.func (.func 67) #[] #[]] w λe w'=>e = .returned (.int .i64 (qp rM s.data.toList))/\w=w':=by
 go_enter Tryz.func66,Tryz.ntmps66
 go_wp2_with fail
 go_loop [8] (λt=>∃ k:Nat,k<=s.size/\t = .int .i64 k/\Hid (FE rM s k)) (λt=>s.size - (intOf t).toNat)
 case atStart=>exact⟨0,Nat.zero_le _,rfl,ł (λj _ h=>by omega)⟩
 case round =>
  obtain⟨k,hk,rfl,hu⟩:=hrel;by_cases hlt:k<s.size
  · by_cases hc:rM (s[k].toNat)=true
    · go_wp2_with fail;refine(Py _ _).mono ?_;rintro e w' ⟨rfl,rfl⟩;go_wp2_with fail
      go_round
      case rel=>exact⟨k+1,by omega,by go_num,ł (λj hj h=>by
       rcases Nat.lt_or_ge j k with h1|h1
       · exact hu.out j hj h1
       · obtain rfl:j=k:=by omega
         exact hc)⟩
      case measure=>simp[intOf];omega
    · have hc2:rM (s[k].toNat)=false:=by simpa using hc
      have HF:=ł (ES rM s.data.toList k (by simpa using hlt) (λj hj=>hu.out j (by omega) hj) hc2);go_wp2_with fail;refine(Py _ _).mono ?_;rintro e w' ⟨rfl,rfl⟩;go_wp2_with fail;go_ret;exact⟨cB (by rw[HF.out]),rfl⟩
  · have hge:s.size<=k:=by omega
    have HF:=ł (EC rM s.data.toList (λj hj=>hu.out j (by simpa using hj) (Nat.lt_of_lt_of_le (by simpa using hj) hge)));go_wp2_with fail;go_ret;exact⟨cB (by rw[HF.out];simp),rfl⟩
theorem XO (s:ByteArray) (w:World) (hs:s.size<=1000000000):Calls Tryz.prog 66 #[.string s,.func (.func 68) #[] #[]] w λe w'=>e = .returned (.int .i64 (qp sM s.data.toList))/\w=w':=by
 go_enter Tryz.func66,Tryz.ntmps66
 go_wp2_with fail
 go_loop [8] (λt=>∃ k:Nat,k<=s.size/\t = .int .i64 k/\Hid (FE sM s k)) (λt=>s.size - (intOf t).toNat)
 case atStart=>exact⟨0,Nat.zero_le _,rfl,ł (λj _ h=>by omega)⟩
 case round =>
  obtain⟨k,hk,rfl,hu⟩:=hrel;by_cases hlt:k<s.size
  · by_cases hc:sM (s[k].toNat)=true
    · go_wp2_with fail;refine(Aw _ _).mono ?_;rintro e w' ⟨rfl,rfl⟩;go_wp2_with fail
      go_round
      case rel=>exact⟨k+1,by omega,by go_num,ł (λj hj h=>by
       rcases Nat.lt_or_ge j k with h1|h1
       · exact hu.out j hj h1
       · obtain rfl:j=k:=by omega
         exact hc)⟩
      case measure=>simp[intOf];omega
    · have hc2:sM (s[k].toNat)=false:=by simpa using hc
      have HF:=ł (ES sM s.data.toList k (by simpa using hlt) (λj hj=>hu.out j (by omega) hj) hc2);go_wp2_with fail;refine(Aw _ _).mono ?_;rintro e w' ⟨rfl,rfl⟩;go_wp2_with fail;go_ret;exact⟨cB (by rw[HF.out]),rfl⟩
  · have hge:s.size<=k:=by omega
    have HF:=ł (EC sM s.data.toList (λj hj=>hu.out j (by simpa using hj) (Nat.lt_of_lt_of_le (by simpa using hj) hge)));go_wp2_with fail;go_ret;exact⟨cB (by rw[HF.out];simp),rfl⟩
theorem XP (s:ByteArray) (w:World) (hs:s.size<=1000000000):Calls Tryz.prog 66 #[.string s,.func (.func 69) #[] #[]] w λe w'=>e = .returned (.int .i64 (qp uM s.data.toList))/\w=w':=by
 go_enter Tryz.func66,Tryz.ntmps66
 go_wp2_with fail
 go_loop [8] (λt=>∃ k:Nat,k<=s.size/\t = .int .i64 k/\Hid (FE uM s k)) (λt=>s.size - (intOf t).toNat)
 case atStart=>exact⟨0,Nat.zero_le _,rfl,ł (λj _ h=>by omega)⟩
 case round =>
  obtain⟨k,hk,rfl,hu⟩:=hrel;by_cases hlt:k<s.size
  · by_cases hc:uM (s[k].toNat)=true
    · go_wp2_with fail;refine(EB _ _).mono ?_;rintro e w' ⟨rfl,rfl⟩;go_wp2_with fail
      go_round
      case rel=>exact⟨k+1,by omega,by go_num,ł (λj hj h=>by
       rcases Nat.lt_or_ge j k with h1|h1
       · exact hu.out j hj h1
       · obtain rfl:j=k:=by omega
         exact hc)⟩
      case measure=>simp[intOf];omega
    · have hc2:uM (s[k].toNat)=false:=by simpa using hc
      have HF:=ł (ES uM s.data.toList k (by simpa using hlt) (λj hj=>hu.out j (by omega) hj) hc2);go_wp2_with fail;refine(EB _ _).mono ?_;rintro e w' ⟨rfl,rfl⟩;go_wp2_with fail;go_ret;exact⟨cB (by rw[HF.out]),rfl⟩
  · have hge:s.size<=k:=by omega
    have HF:=ł (EC uM s.data.toList (λj hj=>hu.out j (by simpa using hj) (Nat.lt_of_lt_of_le (by simpa using hj) hge)));go_wp2_with fail;go_ret;exact⟨cB (by rw[HF.out];simp),rfl⟩
theorem YL (s:ByteArray) (w:World) (hs:s.size<=1000000000):Calls Tryz.prog 66 #[.string s,.func (.func 70) #[] #[]] w λe w'=>e = .returned (.int .i64 (qp yw s.data.toList))/\w=w':=by
 go_enter Tryz.func66,Tryz.ntmps66
 go_wp2_with fail
 go_loop [8] (λt=>∃ k:Nat,k<=s.size/\t = .int .i64 k/\Hid (FE yw s k)) (λt=>s.size - (intOf t).toNat)
 case atStart=>exact⟨0,Nat.zero_le _,rfl,ł (λj _ h=>by omega)⟩
 case round =>
  obtain⟨k,hk,rfl,hu⟩:=hrel;by_cases hlt:k<s.size
  · by_cases hc:yw (s[k].toNat)=true
    · go_wp2_with fail;refine(Px _ _).mono ?_;rintro e w' ⟨rfl,rfl⟩;go_wp2_with fail
      go_round
      case rel=>exact⟨k+1,by omega,by go_num,ł (λj hj h=>by
       rcases Nat.lt_or_ge j k with h1|h1
       · exact hu.out j hj h1
       · obtain rfl:j=k:=by omega
         exact hc)⟩
      case measure=>simp[intOf];omega
    · have hc2:yw (s[k].toNat)=false:=by simpa using hc
      have HF:=ł (ES yw s.data.toList k (by simpa using hlt) (λj hj=>hu.out j (by omega) hj) hc2);go_wp2_with fail;refine(Px _ _).mono ?_;rintro e w' ⟨rfl,rfl⟩;go_wp2_with fail;go_ret;exact⟨cB (by rw[HF.out]),rfl⟩
  · have hge:s.size<=k:=by omega
    have HF:=ł (EC yw s.data.toList (λj hj=>hu.out j (by simpa using hj) (Nat.lt_of_lt_of_le (by simpa using hj) hge)));go_wp2_with fail;go_ret;exact⟨cB (by rw[HF.out];simp),rfl⟩
end
end Go.Proofs.YtnobahchcongnaaGreat
namespace Go.Proofs
open Go.Shelf
def Tryz.Wh:Go.Shelf.Ren:=⟨fun|137=>99|217=>117|266=>122|n=>n,fun|9=>9|5=>5|3=>3|n=>n,fun|n=>n⟩
theorem Tryz.Zt:Go.Proofs.Lays.n137 Tryz.prog Tryz.Wh := {
 mixed:=by kernel_rfl
 f137:=Tryz.func99.trans (congrArg some (by kernel_rfl))
 f217:=Tryz.func117.trans (congrArg some (by kernel_rfl))
 f266:=Tryz.func122.trans (congrArg some (by kernel_rfl))
 t3:=Tryz.underlying3
 a3:=Tryz.isAgg3
 z3:=Tryz.sizeOf3
 v3:=Tryz.zeroValue3
 t5:=Tryz.underlying5
 a5:=Tryz.isAgg5
 z5:=Tryz.sizeOf5
 v5:=Tryz.zeroValue5
 t9:=Tryz.underlying9
 a9:=Tryz.isAgg9
 z9:=Tryz.sizeOf9
 v9:=Tryz.zeroValue9 }
open Go.RowKit in
theorem Tryz.strings_IndexByte (s:ByteArray) (c:Int) (w:World) :
 Calls Tryz.prog 99 #[.string s,.int .u8 c] w λe w'=>e = .returned (.int .i64 (Lib.indexByte s.data.toList c.toNat.toUInt8))/\w'=w:=Any.strings_IndexByte Tryz.Zt s c w
def Tryz.Wi:Go.Shelf.Ren:=⟨fun|217=>117|266=>122|n=>n,fun|9=>9|5=>5|3=>3|n=>n,fun|n=>n⟩
theorem Tryz.Zu:Go.Proofs.Lays.n217 Tryz.prog Tryz.Wi := {
 mixed:=by kernel_rfl
 f217:=Tryz.func117.trans (congrArg some (by kernel_rfl))
 f266:=Tryz.func122.trans (congrArg some (by kernel_rfl))
 t3:=Tryz.underlying3
 a3:=Tryz.isAgg3
 z3:=Tryz.sizeOf3
 v3:=Tryz.zeroValue3
 t5:=Tryz.underlying5
 a5:=Tryz.isAgg5
 z5:=Tryz.sizeOf5
 v5:=Tryz.zeroValue5
 t9:=Tryz.underlying9
 a9:=Tryz.isAgg9
 z9:=Tryz.sizeOf9
 v9:=Tryz.zeroValue9 }
open Go.RowKit Go.Lib in
theorem Tryz.stringslite_IndexByte (s:ByteArray) (c:Int) (w:World) :
 Calls Tryz.prog 117 #[.string s,.int .u8 c] w λe w'=>e = .returned (.int .i64 (Lib.indexByte s.data.toList c.toNat.toUInt8))/\w'=w:=Any.stringslite_IndexByte Tryz.Zu s c w
def Tryz.Wj:Go.Shelf.Ren:=⟨fun|206=>116|n=>n,fun|9=>9|4=>4|3=>3|n=>n,fun|n=>n⟩
theorem Tryz.Zv:Go.Proofs.Lays.n206 Tryz.prog Tryz.Wj := {
 mixed:=by kernel_rfl
 f206:=Tryz.func116.trans (congrArg some (by kernel_rfl))
 t3:=Tryz.underlying3
 a3:=Tryz.isAgg3
 z3:=Tryz.sizeOf3
 v3:=Tryz.zeroValue3
 t4:=Tryz.underlying4
 a4:=Tryz.isAgg4
 z4:=Tryz.sizeOf4
 v4:=Tryz.zeroValue4
 t9:=Tryz.underlying9
 a9:=Tryz.isAgg9
 z9:=Tryz.sizeOf9
 v9:=Tryz.zeroValue9 }
open Go.RowKit Go.Lib in
theorem Tryz.stringslite_HasPrefix (s p:ByteArray) (w:World) :
 Calls Tryz.prog 116 #[.string s,.string p] w λe w'=>e = .returned (.bool (Lib.hasPrefix s.data.toList p.data.toList))/\w'=w:=Any.stringslite_HasPrefix Tryz.Zv s p w
def Tryz.WO:Go.Shelf.Ren:=⟨fun|99=>98|206=>116|n=>n,fun|9=>9|4=>4|3=>3|n=>n,fun|n=>n⟩
theorem Tryz.ZU:Go.Proofs.Lays.n99 Tryz.prog Tryz.WO := {
 mixed:=by kernel_rfl
 f99:=Tryz.func98.trans (congrArg some (by kernel_rfl))
 f206:=Tryz.func116.trans (congrArg some (by kernel_rfl))
 t3:=Tryz.underlying3
 a3:=Tryz.isAgg3
 z3:=Tryz.sizeOf3
 v3:=Tryz.zeroValue3
 t4:=Tryz.underlying4
 a4:=Tryz.isAgg4
 z4:=Tryz.sizeOf4
 v4:=Tryz.zeroValue4
 t9:=Tryz.underlying9
 a9:=Tryz.isAgg9
 z9:=Tryz.sizeOf9
 v9:=Tryz.zeroValue9 }
open Go.RowKit Go.Lib in
theorem Tryz.strings_HasPrefix (s p:ByteArray) (w:World) :
 Calls Tryz.prog 98 #[.string s,.string p] w λe w'=>e = .returned (.bool (Lib.hasPrefix s.data.toList p.data.toList))/\w'=w:=Any.strings_HasPrefix Tryz.ZU s p w
def Tryz.VU:Go.Shelf.Ren:=⟨fun|15=>19|n=>n,fun|22=>51|3=>3|4=>4|n=>n,fun|n=>n⟩
theorem Tryz.Jk:Go.Proofs.Lays2.n15 Tryz.prog Tryz.VU := {
 mixed:=by kernel_rfl
 f15:=Tryz.func19.trans (congrArg some (by kernel_rfl))
 t3:=Tryz.underlying3
 a3:=Tryz.isAgg3
 z3:=Tryz.sizeOf3
 v3:=Tryz.zeroValue3
 t4:=Tryz.underlying4
 a4:=Tryz.isAgg4
 z4:=Tryz.sizeOf4
 v4:=Tryz.zeroValue4
 t22:=Tryz.underlying51
 a22:=Tryz.isAgg51
 z22:=Tryz.sizeOf51
 v22:=Tryz.zeroValue51
 i3:=by kernel_rfl }
open Go.RowKit Go.Lib in
theorem Tryz.slices_Clone_int (b off n c:Nat) (zs:List Int) (w:World) (hz:n<=zs.length) (hbig:n * 8<=140737488355328) (hc:∀ j,j<zs.length->w.cell? ⟨b,off+j,none⟩=some (.int .i64 (zs.getD j 0))) :
 Calls Tryz.prog 19 #[.slice (some ⟨b,off,none⟩) n c] w λe w'=>∃ v',e = .returned v'/\w'.ownsRow w.heap.size 3 1 v' n ((zs.take n).map (Value.int .i64))/\v' ≠ .slice none 0 0/\Below w.heap.size w w':=Any.slices_Clone_int Tryz.Jk b off n c zs w hz hbig hc
open Go.RowKit Go.Lib in
theorem Tryz.slices_Clone_int_nil (n c:Nat) (w:World) :
 Calls Tryz.prog 19 #[.slice none n c] w λe w'=>e = .returned (.slice none 0 0)/\w'=w:=Any.slices_Clone_int_nil Tryz.Jk n c w
open Go.RowKit Go.Lib in
theorem Tryz.slices_Clone_int_zero (a:Addr) (c:Nat) (w:World) :
 Calls Tryz.prog 19 #[.slice (some a) 0 c] w λe w'=>∃ v',e = .returned v'/\w'.ownsRow w.heap.size 3 1 v' 0 []/\v' ≠ .slice none 0 0/\Below w.heap.size w w':=Any.slices_Clone_int_zero Tryz.Jk a c w
def Tryz.VB:Go.Shelf.Ren:=⟨fun|41=>19|n=>n,fun|22=>51|23=>3|4=>4|n=>n,fun|n=>n⟩
theorem Tryz.Nu:Go.Proofs.SlLaysE0.n41 Tryz.prog Tryz.VB := {
 mixed:=by kernel_rfl
 f41:=⟨Tryz.f19.name,by decide,Tryz.func19.trans (congrArg some (by kernel_rfl))⟩
 t4:=Tryz.underlying4
 a4:=Tryz.isAgg4
 z4:=Tryz.sizeOf4
 v4:=Tryz.zeroValue4
 t22:=Tryz.underlying51
 a22:=Tryz.isAgg51
 z22:=Tryz.sizeOf51
 v22:=Tryz.zeroValue51 }
open Go.RowKit Go.Lib in
theorem Tryz.slices_Clone (i0:TypeInfo) (z:Value) (size bytes:Nat) (hi:Tryz.prog.info? 3=some i0) (hz0:i0.zero=some z) (hz1:i0.size=size) (hz2:i0.bytes=bytes) (hzs:z.cells.size=size) (hsz:0<size) (z23:∀ w,(Go.sizeOf 3).run Tryz.prog w = .ok size w) (b off n c:Nat) (news:List Value) (w:World) (hl:news.length=n * size) (hn:n<=maxLen) (hbig:n * bytes<=140737488355328) (hc:∀ j u,news[j]? = some u->w.cell? ⟨b,off+j,none⟩=some u) (h1:∀ u∈news,u.oneCell'=true) :
 Calls Tryz.prog 19 #[.slice (some ⟨b,off,none⟩) n c] w λe w'=>∃ v',e = .returned v'/\w'.ownsRow w.heap.size 3 size v' n news/\v' ≠ .slice none 0 0/\Below w.heap.size w w':=AnyE.slices_Clone Tryz.Nu i0 z size bytes hi hz0 hz1 hz2 hzs hsz z23 b off n c news w hl hn hbig hc h1
open Go.RowKit Go.Lib in
theorem Tryz.slices_Clone_nil (n c:Nat) (w:World) :
 Calls Tryz.prog 19 #[.slice none n c] w λe w'=>e = .returned (.slice none 0 0)/\w'=w:=AnyE.slices_Clone_nil Tryz.Nu n c w
end Go.Proofs
namespace Go.Proofs.YtnobahchcongnaaGreat
section
open Go.RowKit Go.Instr
def Zw (w:World) (e:Ending) (w':World):Prop:=∃ n:Int,e = .returned (.int .i64 n)/\w=w'
theorem Zx (s p:ByteArray) (w:World):∃ b:Bool,Calls Tryz.prog 98 #[.string s,.string p] w λe w'=>e = .returned (.bool b)/\w=w' :=
 ⟨_,(Tryz.strings_HasPrefix s p w).mono λ_ _ h=>⟨h.1,h.2.symm⟩⟩
theorem Zy (s:ByteArray) (c:Int) (w:World):∃ n:Int,Calls Tryz.prog 99 #[.string s,.int .u8 c] w λe w'=>e = .returned (.int .i64 n)/\w=w' :=
 ⟨_,(Tryz.strings_IndexByte s c w).mono λ_ _ h=>⟨h.1,h.2.symm⟩⟩
theorem YM (s:ByteArray) (w:World) (h1:1<=s.size) (hs:s.size<=16):Calls Tryz.prog 71 #[.string s] w (Zw w):=by
 obtain⟨b,hb⟩:=Zx s ⟨#[60,61,62]⟩ w;have HB:=ł hb;clear hb
 go_enter Tryz.func71,Tryz.ntmps71
 go_wp2_with (first
  |(go_at_call 98;refine HB.out.mono ?_;rintro e w' ⟨rfl,rfl⟩)
  |(go_at_call 99;refine(Zy _ _ _).choose_spec.mono ?_;rintro e w' ⟨rfl,rfl⟩))
 all_goals (go_ret;exact⟨_,rfl,rfl⟩)
def QH:List ByteArray:=[⟨#[105,110,116]⟩,⟨#[97,114,114,97,121]⟩,⟨#[115,116,97,99,107]⟩,⟨#[112,114,111,99]⟩,⟨#[109,97,105,110]⟩,⟨#[112,117,115,104]⟩,⟨#[112,111,112]⟩,⟨#[114,101,97,100]⟩,⟨#[117,110,114,101,97,100]⟩,⟨#[119,114,105,116,101]⟩,⟨#[117,110,119,114,105,116,101]⟩,⟨#[99,97,108,108]⟩,⟨#[117,110,99,97,108,108]⟩,⟨#[105,102]⟩,⟨#[101,108,115,101]⟩,⟨#[102,105]⟩,⟨#[102,114,111,109]⟩,⟨#[108,111,111,112]⟩,⟨#[117,110,116,105,108]⟩,⟨#[108,111,99,97,108]⟩,⟨#[100,101,108,111,99,97,108]⟩,⟨#[116,111,112]⟩,⟨#[115,105,122,101]⟩]
def Kq:List (ByteArray × Value):=QH.foldl (λl k=>lI k (.bool true) l) []
def Bf (s:ByteArray):Bool:=(vX Kq s).isSome
theorem OJ {κ:Type} [BEq κ] [LawfulBEq κ] (k:κ):∀ (l:List (κ × Value)) (i:Nat),(∀ p∈l,p.2 = .bool true)->((il k l i).map (·.2)).getD (.bool false) = .bool ((il k l i).map (·.2)).isSome
 | [],i,_=>rfl
 |(a,x) :: l,i,h=>by
  simp only[il];split
  · have:=h (a,x) (by simp);simp only at this;subst this;rfl
  · exact OJ k l (i+1) (λp hp=>h p (by simp[hp]))
theorem OL {κ:Type} [BEq κ] [LawfulBEq κ] (k:κ):∀ (l:List (κ × Value)),(∀ p∈l,p.2 = .bool true)->∀ p∈lI k (.bool true) l,p.2 = .bool true
 | [],_,p,hp=>by simp[lI]at hp;subst hp;rfl
 |(a,x) :: l,h,p,hp=>by
  simp only[lI]at hp;split at hp
  · rcases List.mem_cons.1 hp with rfl|hp
    · rfl
    · exact h p (by simp[hp])
  · rcases List.mem_cons.1 hp with rfl|hp
    · exact h _ (by simp)
    · exact OL k l (λq hq=>h q (by simp[hq])) p hp
theorem XQ (ks:List ByteArray):∀ (l:List (ByteArray × Value)),(∀ p∈l,p.2 = .bool true)->∀ p∈ks.foldl (λl k=>lI k (.bool true) l) l,p.2 = .bool true:=by
 induction ks with
 |nil=>intro l h;exact h
 |cons k ks ih=>intro l h;exact ih _ (OL k l h)
theorem Tryz.gM:KeyLaw Tryz.prog 9 Value.string .string:=Zr Tryz.underlying9
theorem Tryz.ET (w:World):(zeroValue 4).run Tryz.prog w = .ok (.bool false) w:=by kernel_rfl
theorem jF {P:Program} {κ:Type} [BEq κ] [LawfulBEq κ] {enc:κ->Value} {desc:TypeDesc} {K T E:TypeId} {w:World} {ops:Array Oper} {rest:List Oper} {o:Oper} {a:Act} {Q:Exit->Act->World->Prop}
 (L:KeyLaw P K enc desc) (ht:P.underlying T=some (.map K E)) (r:Nat) (l:List (κ × Value)) (k:κ) (v:Value) (h:MapAt enc w r l) (m:Tmp) (kc vc:Value) (hgd:o.guard=none) (ho:o.op = .insert T (.tmp m) (.const kc) (.const vc)) (hm:a.eval (.tmp m) = .map (some r)) (hk:kc=enc k) (hv:vc=v)
 (hnext:∀ w',MapAt enc w' r (lI k v l)->Mv (λb=>b=r) w w'->wpList P ops Q rest (a.put o.dst undef) w'):wpList P ops Q (o :: rest) a w :=
 wpList_plain hgd λ_ hK=>by
  obtain⟨w',hr,h2,h3⟩:=run_set (P:=P) L ht k v h;subst hk hv;unfold Oper.wp execOp;simp only[ho,Act.eval,Sem.run_bind,Sem.run_pure,Result.andThen_ok]at hm ⊢;simp only[hm,hr,Result.andThen_ok];exact hK _ _ (hnext w' h2 h3)
theorem Wl (s:ByteArray) (w:World) (hs:s.size<=1000000000):Calls Tryz.prog 41 #[.string s] w λe w'=>e = .returned (.bool (decide (2<=s.size) && (decide (s.size<=7) && Bf s)))/\Mv (λ_=>False) w w':=by
 by_cases h2:2<=s.size
 · by_cases h7:s.size<=7
   · have hmm := @run_makeMap Tryz.prog;have H0:MapAt Value.string (w.alloc (.map #[] 0)) w.heap.size []:=MapAt.new _ w;have M0:Mv (λb=>b=w.heap.size) w (w.alloc (.map #[] 0)):=(Mv.refl _ _).alloc _
     go_enter Tryz.func41,Tryz.ntmps41
     go_wp2_with (refine jF Tryz.gM Tryz.underlying78 w.heap.size _ ⟨#[105,110,116]⟩ (.bool true) H0 _ _ _ rfl rfl rfl rfl rfl ?_)
     intro w1 H1 N1;have M1:=M0.trans N1 (λ_ e => .inl e);clear H0 M0 N1
     go_wp2_with (refine jF Tryz.gM Tryz.underlying78 w.heap.size _ ⟨#[97,114,114,97,121]⟩ (.bool true) H1 _ _ _ rfl rfl rfl rfl rfl ?_)
     intro w2 H2 N2;have M2:=M1.trans N2 (λ_ e => .inl e);clear H1 M1 N2
     go_wp2_with (refine jF Tryz.gM Tryz.underlying78 w.heap.size _ ⟨#[115,116,97,99,107]⟩ (.bool true) H2 _ _ _ rfl rfl rfl rfl rfl ?_)
     intro w3 H3 N3;have M3:=M2.trans N3 (λ_ e => .inl e);clear H2 M2 N3
     go_wp2_with (refine jF Tryz.gM Tryz.underlying78 w.heap.size _ ⟨#[112,114,111,99]⟩ (.bool true) H3 _ _ _ rfl rfl rfl rfl rfl ?_)
     intro w4 H4 N4;have M4:=M3.trans N4 (λ_ e => .inl e);clear H3 M3 N4
     go_wp2_with (refine jF Tryz.gM Tryz.underlying78 w.heap.size _ ⟨#[109,97,105,110]⟩ (.bool true) H4 _ _ _ rfl rfl rfl rfl rfl ?_)
     intro w5 H5 N5;have M5:=M4.trans N5 (λ_ e => .inl e);clear H4 M4 N5
     go_wp2_with (refine jF Tryz.gM Tryz.underlying78 w.heap.size _ ⟨#[112,117,115,104]⟩ (.bool true) H5 _ _ _ rfl rfl rfl rfl rfl ?_)
     intro w6 H6 N6;have M6:=M5.trans N6 (λ_ e => .inl e);clear H5 M5 N6
     go_wp2_with (refine jF Tryz.gM Tryz.underlying78 w.heap.size _ ⟨#[112,111,112]⟩ (.bool true) H6 _ _ _ rfl rfl rfl rfl rfl ?_)
     intro w7 H7 N7;have M7:=M6.trans N7 (λ_ e => .inl e);clear H6 M6 N7
     go_wp2_with (refine jF Tryz.gM Tryz.underlying78 w.heap.size _ ⟨#[114,101,97,100]⟩ (.bool true) H7 _ _ _ rfl rfl rfl rfl rfl ?_)
     intro w8 H8 N8;have M8:=M7.trans N8 (λ_ e => .inl e);clear H7 M7 N8
     go_wp2_with (refine jF Tryz.gM Tryz.underlying78 w.heap.size _ ⟨#[117,110,114,101,97,100]⟩ (.bool true) H8 _ _ _ rfl rfl rfl rfl rfl ?_)
     intro w9 H9 N9;have M9:=M8.trans N9 (λ_ e => .inl e);clear H8 M8 N9
     go_wp2_with (refine jF Tryz.gM Tryz.underlying78 w.heap.size _ ⟨#[119,114,105,116,101]⟩ (.bool true) H9 _ _ _ rfl rfl rfl rfl rfl ?_)
     intro Bg SN SQ;have SS:=M9.trans SQ (λ_ e => .inl e);clear H9 M9 SQ
     go_wp2_with (refine jF Tryz.gM Tryz.underlying78 w.heap.size _ ⟨#[117,110,119,114,105,116,101]⟩ (.bool true) SN _ _ _ rfl rfl rfl rfl rfl ?_)
     intro bf SV SX;have SY:=SS.trans SX (λ_ e => .inl e);clear SN SS SX
     go_wp2_with (refine jF Tryz.gM Tryz.underlying78 w.heap.size _ ⟨#[99,97,108,108]⟩ (.bool true) SV _ _ _ rfl rfl rfl rfl rfl ?_)
     intro Gw S9 Ta;have Tc:=SY.trans Ta (λ_ e => .inl e);clear SV SY Ta
     go_wp2_with (refine jF Tryz.gM Tryz.underlying78 w.heap.size _ ⟨#[117,110,99,97,108,108]⟩ (.bool true) S9 _ _ _ rfl rfl rfl rfl rfl ?_)
     intro gV Td Te;have Tf:=Tc.trans Te (λ_ e => .inl e);clear S9 Tc Te
     go_wp2_with (refine jF Tryz.gM Tryz.underlying78 w.heap.size _ ⟨#[105,102]⟩ (.bool true) Td _ _ _ rfl rfl rfl rfl rfl ?_)
     intro Tg Ti Tj;have Tk:=Tf.trans Tj (λ_ e => .inl e);clear Td Tf Tj
     go_wp2_with (refine jF Tryz.gM Tryz.underlying78 w.heap.size _ ⟨#[101,108,115,101]⟩ (.bool true) Ti _ _ _ rfl rfl rfl rfl rfl ?_)
     intro Tm Tn Tp;have Tq:=Tk.trans Tp (λ_ e => .inl e);clear Ti Tk Tp
     go_wp2_with (refine jF Tryz.gM Tryz.underlying78 w.heap.size _ ⟨#[102,105]⟩ (.bool true) Tn _ _ _ rfl rfl rfl rfl rfl ?_)
     intro w16 Tt Tu;have Tv:=Tq.trans Tu (λ_ e => .inl e);clear Tn Tq Tu
     go_wp2_with (refine jF Tryz.gM Tryz.underlying78 w.heap.size _ ⟨#[102,114,111,109]⟩ (.bool true) Tt _ _ _ rfl rfl rfl rfl rfl ?_)
     intro w17 Tw Tx;have Ty:=Tv.trans Tx (λ_ e => .inl e);clear Tt Tv Tx
     go_wp2_with (refine jF Tryz.gM Tryz.underlying78 w.heap.size _ ⟨#[108,111,111,112]⟩ (.bool true) Tw _ _ _ rfl rfl rfl rfl rfl ?_)
     intro w18 Tz TA;have TB:=Ty.trans TA (λ_ e => .inl e);clear Tw Ty TA
     go_wp2_with (refine jF Tryz.gM Tryz.underlying78 w.heap.size _ ⟨#[117,110,116,105,108]⟩ (.bool true) Tz _ _ _ rfl rfl rfl rfl rfl ?_)
     intro w19 TC TD;have TE:=TB.trans TD (λ_ e => .inl e);clear Tz TB TD
     go_wp2_with (refine jF Tryz.gM Tryz.underlying78 w.heap.size _ ⟨#[108,111,99,97,108]⟩ (.bool true) TC _ _ _ rfl rfl rfl rfl rfl ?_)
     intro w20 TF TG;have TH:=TE.trans TG (λ_ e => .inl e);clear TC TE TG
     go_wp2_with (refine jF Tryz.gM Tryz.underlying78 w.heap.size _ ⟨#[100,101,108,111,99,97,108]⟩ (.bool true) TF _ _ _ rfl rfl rfl rfl rfl ?_)
     intro w21 TI TJ;have TK:=TH.trans TJ (λ_ e => .inl e);clear TF TH TJ
     go_wp2_with (refine jF Tryz.gM Tryz.underlying78 w.heap.size _ ⟨#[116,111,112]⟩ (.bool true) TI _ _ _ rfl rfl rfl rfl rfl ?_)
     intro w22 TL TM;have TN:=TK.trans TM (λ_ e => .inl e);clear TI TK TM
     go_wp2_with (refine jF Tryz.gM Tryz.underlying78 w.heap.size _ ⟨#[115,105,122,101]⟩ (.bool true) TL _ _ _ rfl rfl rfl rfl rfl ?_)
     intro TP TQ TR;have TS:=TN.trans TR (λ_ e => .inl e);clear TL TN TR;have hl:=run_get Tryz.gM Tryz.underlying78 s (.bool false) Tryz.ET TQ;have hg:(vX Kq s).getD (.bool false) = .bool (Bf s):=OJ s Kq 0 (XQ QH [] (by simp));have hl2:(lookup 78 (.map (some w.heap.size)) (.string s) false).run Tryz.prog TP = .ok (.bool (Bf s)) TP:=hl.trans (by rw[← hg];rfl);have HM:=ł (TS.mono (O1:=λ_=>False) (λx e => .inr (by omega)));clear hl hg TQ TS;go_wp2_with fail;go_ret;exact⟨aL (by simp[h2,h7]),HM.out⟩
   · go_enter Tryz.func41,Tryz.ntmps41
     go_wp2_with fail;go_ret;exact⟨aL (by simp[h7]),Mv.refl _ _⟩
 · go_enter Tryz.func41,Tryz.ntmps41
   go_wp2_with fail;go_ret;exact⟨aL (by simp[h2]),Mv.refl _ _⟩
end
end Go.Proofs.YtnobahchcongnaaGreat
