import Derived.Test.YtadecgbblajifaaGreatDoorE01
import Derived.Test.YtadecgbblajifaaGreatDoorE17
import Derived.Deep.AppendSrc
import Derived.Deep.MidRow
import Derived.Deep.Upon
import Derived.Laws.MakeOwn
import Derived.Deep.CutRange
import Derived.Deep.DeepCutAuto
import Derived.Deep.CutBlock
set_option linter.unusedSimpArgs false
set_option linter.unusedVariables false
set_option maxRecDepth 100000
set_option maxHeartbeats 25600000
namespace Go.Proofs.YtadecgbblajifaaGreatDoor
open Go.RowKit Go.Instr
def flat {α:Type} (f:α->List Value) (l:List α):List Value:=(l.map f).flatten
theorem Nt {α:Type} (f:α->List Value) (a b:List α):flat f (a ++ b)=flat f a ++ flat f b:=by simp[flat]
theorem IX {α:Type} (f:α->List Value) (n:Nat) (h:∀ x,(f x).length=n):∀ l:List α,(flat f l).length=l.length * n
 | []=>by simp[flat]
 |x :: l=>by
  have:=IX f n h l
  simp only[flat,List.map_cons,List.flatten_cons,List.length_append,h,List.length_cons]at this ⊢
  rw[this,Nat.add_mul];omega
theorem D8 {α:Type} (f:α->List Value) (n:Nat) (h:∀ x,(f x).length=n):∀ (l:List α) (i j:Nat) (hi:i<l.length),j<n->(flat f l)[i * n+j]? = (f l[i])[j]?
 | [],i,j,hi,_=>by simp at hi
 |x :: l,0,j,_,hj=>by
  simp only[flat,List.map_cons,List.flatten_cons,Nat.zero_mul,Nat.zero_add,List.getElem_cons_zero]
  rw[List.getElem?_append_left (by rw[h];exact hj)]
 |x :: l,i+1,j,hi,hj=>by
  have:=D8 f n h l i j (by simpa using hi) hj
  simp only[flat,List.map_cons,List.flatten_cons,List.getElem_cons_succ]at this ⊢
  rw[List.getElem?_append_right (by rw[h,Nat.add_mul];omega),h,show(i+1) * n+j - n=i * n+j by rw[Nat.add_mul];omega]
  exact this
theorem Ng {α:Type} {f:α->List Value} {n e base:Nat} {w:World} {v:Value} {l:List α} (hf:∀ x,(f x).length=n) (h:w.ownsRow base e n v l.length (flat f l)):aB n f w v l:=by
 rcases h.2 with⟨rfl,hl⟩|⟨g,cap,cur,rfl,hb,hg,hnc,hcm,hcs,htake⟩
 · obtain rfl:l=[]:=List.eq_nil_of_length_eq_zero hl
   exact aB.nil _ _ _
 · refine⟨_,cap,rfl,hnc,by unfold maxLen at hcm;omega,λi x hx=>⟨g,0,rfl,λj u hu => ?_⟩⟩
   have hi:=(List.getElem?_eq_some_iff.1 hx).1
   have hj:j<n:=by rw[← hf x];exact(List.getElem?_eq_some_iff.1 hu).1
   have hx':l[i]=x:=by rw[List.getElem?_eq_getElem hi]at hx;simpa using hx
   have h1:=D8 f n hf l i j hi hj
   rw[hx',hu]at h1
   have hlt:i * n+j<l.length * n:=by
    have:=Nat.mul_le_mul_right n (show i+1<=l.length from hi)
    rw[Nat.add_mul]at this;omega
   have h2:cur[i * n+j]? = some u:=by
    rw[← htake,List.getElem?_take,if_pos hlt]at h1
    simpa using h1
   simp only[World.cell?,hg,Option.isSome_none,Bool.false_eq_true,if_false,Nat.zero_add]
   exact h2
theorem fQ {α:Type} {f:α->List Value} {n e base:Nat} {w w':World} {v:Value} {l:List α} {O:Nat->Prop} (h:w.ownsRow base e n v l.length (flat f l)) (hm:Mv O w w') (hO:∀ g,v.ownBlock=some g->¬ O g):w'.ownsRow base e n v l.length (flat f l):=by
 refine⟨h.1,?_⟩
 rcases h.2 with h1|⟨g,cap,cur,rfl,hb,hg,rest⟩
 · exact .inl h1
 · exact .inr ⟨g,cap,cur,rfl,hb,by rw[hm.block g (lt_of_block hg) (hO g rfl)];exact hg,rest⟩
theorem o8 {α:Type} {f:α->List Value} {n e base:Nat} {w:World} {v:Value} {l:List α} (h:w.ownsRow base e n v l.length (flat f l)):∃ a c,v = .slice a l.length c:=by
 rcases h.2 with⟨rfl,hl⟩|⟨g,cap,cur,rfl,_⟩
 · exact⟨none,0,by rw[hl]⟩
 · exact⟨_,_,rfl⟩
theorem block_setCell {w:World} {p:Addr} {c:Array Value} {t:TypeId} {z:Nat × Nat} (h:w.heap[p.block]? = some (.cells c t z)) (hp:p.spot=none) (u:Value) :
 (w.setCell p u).heap[p.block]? = some (.cells (c.setIfInBounds p.off u) t z):=by
 have hlt:=lt_of_block h
 have h':w.heap[p.block] = .cells c t z:=by simpa[Array.getElem?_eq_getElem hlt]using h
 show(w.heap.modify p.block _)[p.block]? = _
 rw[Array.getElem?_eq_getElem (by simpa using hlt),Array.getElem_modify_self,h']
 simp[hp]
theorem flat_get {α:Type} (f:α->List Value) (n:Nat) (hn:0<n) (h:∀ x,(f x).length=n) (l:List α) (j:Nat) (u:Value) (hu:(flat f l)[j]? = some u):∃ i r,j=i * n+r/\∃ hi:i<l.length,(f l[i])[r]? = some u:=by
 have hj:j<l.length * n:=by have:=(List.getElem?_eq_some_iff.1 hu).1;rw[IX f n h]at this;exact this
 have hi:j / n<l.length:=(Nat.div_lt_iff_lt_mul hn).2 hj
 have hr:j % n<n:=Nat.mod_lt _ hn
 have he:j / n * n+j % n=j:=by rw[Nat.mul_comm];exact Nat.div_add_mod j n
 have h1:=D8 f n h l (j / n) (j % n) hi hr
 rw[he,hu]at h1
 exact⟨j / n,j % n,he.symm,hi,h1.symm⟩
theorem aB.gW {α:Type} {n:Nat} {f:α->List Value} {w:World} {b:Nat} {cs:Array Value} {t:TypeId} {fr:Nat × Nat} {l:List α} (hf:∀ x,(f x).length=n) (h:w.heap[b]? = some (.cells cs t fr)) (hl:cs.toList=flat f l) (hn:l.length<=9223372036854775807):aB n f w (.slice (some ⟨b,0,none⟩) l.length l.length) l:=by
 refine⟨_,_,rfl,Nat.le_refl _,hn,λi x hx=>⟨b,0,rfl,λj u hu => ?_⟩⟩
 have hi:=(List.getElem?_eq_some_iff.1 hx).1
 have hj:j<n:=by rw[← hf x];exact(List.getElem?_eq_some_iff.1 hu).1
 have hx':l[i]=x:=by rw[List.getElem?_eq_getElem hi]at hx;simpa using hx
 have h1:=D8 f n hf l i j hi hj
 rw[hx',hu,← hl]at h1
 simp only[World.cell?,h,Option.isSome_none,Bool.false_eq_true,if_false,Nat.zero_add]
 simpa using h1
theorem aB.stay {α:Type} {n:Nat} {f:α->List Value} {w w':World} {v:Value} {l:List α} {O:Nat->Prop} (h:aB n f w v l) (hm:Mv O w w') (hO:∀ g,v.ownBlock=some g->¬ O g):aB n f w' v l:=by
 obtain⟨a,cap,rfl,h2,h3,h4⟩:=h
 refine⟨a,cap,rfl,h2,h3,λi x hx => ?_⟩
 obtain⟨b,off,rfl,hc⟩:=h4 i x hx
 refine⟨b,off,rfl,λj u hu => ?_⟩
 have h5:=hc j u hu
 rw[← h5]
 exact World.cell?_of_block (w:=w) (w':=w') (hm.block _ (World.block_lt_of_cell? w _ h5) (hO b (by simp[Value.ownBlock])))
theorem dG {w:World} {b:Nat} {x:Obj} (h:w.heap[b]? = some x) (o:Obj):(w.alloc o).heap[b]? = some x:=by
 have hb:b<w.heap.size:=(Array.getElem?_eq_some_iff.1 h).1
 rw[Below.heap_alloc _ _ _ hb];exact h
theorem run_append_nothing {P:Program} (w:World) (t ty e:TypeId) (i:TypeInfo) (ht:P.underlying t=some (.slice e)) (hi:P.info? e=some i) (a:Option Addr) (n cap c:Nat) (hn:n<=cap) :
 (Builtin.append_ #[t,t] ty #[.slice a n cap,.slice none 0 c]).run P w = .ok (.slice a n cap) w:=by
 have hf:=run_firstCells_none (P:=P) w i.size 0 0 c
 cases a with
 |none=>simp[Builtin.append_,run_underlying ht,sizeOf,typeInfo,hi,Builtin.lenOf,hn,hf]
 |some a=>simp[Builtin.append_,run_underlying ht,sizeOf,typeInfo,hi,Builtin.lenOf,hn,hf,storeCells]
structure Elem (P:Program) (t e:TypeId) (n bytes:Nat):Prop where
 ht:P.underlying t=some (.slice e)
 hi:∃ i z,P.info? e=some i/\i.zero=some z/\i.size=n/\i.bytes=bytes/\z.cells.size=n
 hn:0<n
 hb:bytes<=1000
theorem Elem.of {P:Program} {t e:TypeId} {n bytes:Nat} {z:Value} (ht:P.underlying t=some (.slice e)) (h:(P.info? e).map (λi=>(i.zero,i.size,i.bytes))=some (some z,n,bytes)) (hz:z.cells.size=n) (hn:0<n) (hb:bytes<=1000):Elem P t e n bytes:=by
 obtain⟨i0,hi,hz0,hz1,hz2⟩:=info_parts h
 exact⟨ht,⟨i0,z,hi,hz0,hz1,hz2,hz⟩,hn,hb⟩
section
variable {P:Program} {t e:TypeId} {n bytes:Nat} {α:Type} {f:α->List Value}
theorem nL (E:Elem P t e n bytes) (hf:∀ x,(f x).length=n) (v s:Value) (xs l:List α) (base:Nat) (w:World) (hrow:w.ownsRow base e n v xs.length (flat f xs)) (hs:aB n f w s l) (h1:∀ x∈l,∀ u∈f x,u.oneCell'=true) (hb:base<=w.heap.size) (hlen:xs.length+l.length<=1000000) :
 ∃ a' c' w2,(yG P t t v s w/\tX P t t v s w = .slice a' (xs.length+l.length) c'/\appW P t t v s w=w2) /\
  w2.ownsRow base e n (.slice a' (xs.length+l.length) c') (xs ++ l).length (flat f (xs ++ l))/\Mv (λb=>v.ownBlock=some b) w w2/\(∀ g,(Value.slice a' (xs.length+l.length) c').ownBlock=some g->v.ownBlock=some g\/w.heap.size<=g):=by
 obtain⟨i,z,hi,hz,hsz,hby,hzc⟩:=E.hi
 obtain⟨sa,sc,rfl,hsc,hsl,hcell⟩:=hs
 cases sa with
 |none =>
  obtain rfl:l=[]:=by
   cases l with
   |nil=>rfl
   |cons x l=>obtain⟨b,off,e,_⟩:=hcell 0 x rfl;cases e
  obtain⟨va,vc,hv⟩:=o8 hrow
  have hcap:xs.length<=vc:=by
   rcases hrow.2 with⟨e1,h0⟩|⟨g,cap,cur,e1,hb1,hg,hnc,_⟩
   · rw[hv]at e1;simp at e1;omega
   · rw[hv]at e1;simp at e1;omega
  subst hv
  have hr:=run_append_nothing w t t e i E.ht hi va xs.length vc sc hcap
  obtain⟨hok,hv,hw⟩:=JG hr
  refine⟨va,vc,w,⟨hok,by simpa using hv,hw⟩,by simpa using hrow,Mv.refl _ _,λg hg => .inl (by simpa using hg)⟩
 |some a =>
  have hnews:∀ j u,(flat f l)[j]? = some u->w.cell? (a.add j)=some u:=λj u hu=>by
   obtain⟨i',r,rfl,hi',hu⟩:=flat_get _ n E.hn hf l j u hu
   obtain⟨b,off,e1,hc⟩:=hcell i' _ (List.getElem?_eq_getElem hi')
   simp only[Option.some.injEq]at e1
   subst e1
   have:=hc r u hu
   have e2:(⟨b,off,none⟩:Addr).add (i' * n+r)=⟨b,off+i' * n+r,none⟩:=by unfold Addr.add;split <;> simp_all [Nat.add_assoc]
   rw[e2];exact this
  have adm:(xs.length+l.length) * bytes<=140737488355328:=by
   have:=Nat.mul_le_mul hlen E.hb
   omega
  obtain⟨v',w2,hr,hown1,hgrow,_,hnew⟩:=MZ (P:=P) w base t t e i z n bytes E.ht hi hz hsz hby hzc E.hn v _ _ hrow a l.length sc (flat f l) (IX _ n hf l) hnews
   (λu hu=>by
    simp only[flat,List.mem_flatten,List.mem_map]at hu
    obtain⟨_,⟨o,ho,rfl⟩,hu⟩:=hu
    exact h1 o ho u hu)
   (by unfold maxLen;omega) adm hb
  have hform:∃ a' c',v' = .slice a' (xs.length+l.length) c':=by
   rcases hown1.2 with⟨rfl,h0⟩|⟨g,cap,cur,rfl,_⟩
   · exact⟨none,0,by rw[h0]⟩
   · exact⟨_,_,rfl⟩
  obtain⟨a',c',rfl⟩:=hform
  obtain⟨hok,hv,hw2⟩:=JG hr
  refine⟨a',c',w2,⟨hok,hv,hw2⟩,?_,(Mv.refl _ _).grown hgrow (λk hk => .inl hk),λg hg=>hnew g hg⟩
  rw[Nt,List.length_append];exact hown1
end
theorem rY (b off k:Nat):(⟨b,off,none⟩:Addr).add k=⟨b,off+k,none⟩:=by unfold Addr.add;split <;> simp_all
section
variable {P:Program} {t e:TypeId} {n bytes:Nat} {α:Type} {f:α->List Value}
def Mj (n:Nat) (f:α->List Value) (w:World) (base:Nat) (v:Value) (l:List α):Prop :=
 aB n f w v l/\∃ b off cap,v = .slice (some ⟨b,off,none⟩) l.length cap/\(base<=b/\b<w.heap.size)/\l.length<=cap /\
  (∀ j,j<cap * n->(w.cell? ⟨b,off+j,none⟩).isSome=true)/\∀ j,w.frozen? ⟨b,j,none⟩=false
theorem W9 {w w':World} {b:Nat} (h:w'.heap[b]? = w.heap[b]?) (j:Nat):w'.frozen? ⟨b,j,none⟩=w.frozen? ⟨b,j,none⟩:=by simp[World.frozen?,h]
theorem Mj.keep {w w':World} {base:Nat} {v:Value} {l:List α} {O:Nat->Prop} (h:Mj n f w base v l) (hm:Mv O w w') (hO:∀ g,v.ownBlock=some g->¬ O g):Mj n f w' base v l:=by
 obtain⟨hr,b,off,cap,rfl,⟨hb,hl⟩,hc,hs,hz⟩:=h
 have hbk:=hm.block b hl (hO b rfl)
 refine⟨?_,b,off,cap,rfl,⟨hb,Nat.lt_of_lt_of_le hl hm.size⟩,hc,λj hj => ?_,λj => ?_⟩
 · obtain⟨a,cap',e1,h2,h3,h4⟩:=hr
   refine⟨a,cap',e1,h2,h3,λi x hx => ?_⟩
   obtain⟨b',off',hb',hc'⟩:=h4 i x hx
   refine⟨b',off',hb',λj u hu => ?_⟩
   subst hb'
   simp only[Value.slice.injEq,Option.some.injEq,Addr.mk.injEq,and_true]at e1
   obtain⟨⟨rfl,rfl⟩,-⟩:=e1
   rw[← hc' j u hu]
   exact World.cell?_of_block hbk
 · rw[World.cell?_of_block (w:=w) (w':=w') (a:=⟨b,off+j,none⟩) hbk];exact hs j hj
 · rw[W9 hbk];exact hz j
end
def nR (w:World) (bb:Nat) (ty:TypeId) (B:List Bool):Prop:=w.heap[bb]? = some (.cells (B.map Value.bool).toArray ty (0,0))
theorem nR.keep {w w':World} {bb:Nat} {ty:TypeId} {B:List Bool} (h:nR w bb ty B) (hw:w'.heap[bb]? = w.heap[bb]?):nR w' bb ty B:=by unfold nR;rw[hw];exact h
theorem nR.cell {w:World} {bb:Nat} {ty:TypeId} {B:List Bool} (h:nR w bb ty B) {j:Nat} (hj:j<B.length):w.cell? ⟨bb,j,none⟩=some (.bool B[j]):=by
 unfold nR at h
 simp[World.cell?,h,hj]
theorem nR.set {w:World} {bb:Nat} {ty:TypeId} {B:List Bool} (h:nR w bb ty B) (j:Nat) (v:Bool):nR (w.setCell ⟨bb,j,none⟩ (.bool v)) bb ty (B.set j v):=by
 unfold nR at h ⊢
 have:=block_setCell (p:=⟨bb,j,none⟩) h rfl (.bool v)
 rw[this]
 simp[List.map_set]
theorem aJ {w w':World} {b:Nat} {x:Obj} (h:w.heap[b]? = some x) (hm:Grow w w'):w'.heap[b]? = some x:=by rw[hm.block b (lt_of_block h) (λe=>e)];exact h
theorem a2 (w : World) (A B : Obj) : RowKit.Hid (((w.alloc A).alloc B).heap[w.heap.size]? = some A) /\ RowKit.Hid (((w.alloc A).alloc B).heap[w.heap.size + 1]? = some B) /\ RowKit.Hid (Grow w ((w.alloc A).alloc B)) := ⟨ł (dG (heap_alloc_new w _) _), ł (by have := heap_alloc_new (w.alloc A) B; rwa[World.size_alloc]at this), ł (((Mv.refl _ w).alloc _).alloc _)⟩
def yZ (t:ByteArray):Bool:=t.toList == [58,61] || (t.toList == [43,61] || (t.toList == [45,61] || (t.toList == [94,61] || (t.toList == [61,61] || (t.toList == [33,61] || (t.toList == [60,61] || (t.toList == [62,61] || (t.toList == [38,38] || (t.toList == [124,124])))))))))
theorem Z6 {t:ByteArray} (h:yZ t=true):t.toList=[58,61]\/t.toList=[43,61]\/t.toList=[45,61]\/t.toList=[94,61]\/t.toList=[61,61]\/t.toList=[33,61]\/t.toList=[60,61]\/t.toList=[62,61]\/t.toList=[38,38]\/t.toList=[124,124]:=by
 simp only[yZ,Bool.or_eq_true,beq_iff_eq]at h
 exact h
theorem aaM {t:ByteArray} (h:yZ t=false):(t.toList == [58,61])=false/\(t.toList == [43,61])=false/\(t.toList == [45,61])=false/\(t.toList == [94,61])=false/\(t.toList == [61,61])=false/\(t.toList == [33,61])=false/\(t.toList == [60,61])=false/\(t.toList == [62,61])=false/\(t.toList == [38,38])=false/\(t.toList == [124,124])=false:=by
 simp only[yZ,Bool.or_eq_false_iff]at h
 exact h
def EJ (s:ByteArray):Int:=if Lib.hasPrefix s.data.toList [60,61,62]=true then 3 else if yZ (s.extract 0 (min 2 (s.size:Int)).toNat)=true then 2 else if h:1<=s.size then(if(0:Int)<=Lib.indexByte [43,45,42,47,37,38,124,94,33,61,60,62,40,41,123,125,91,93,59,44] s[0]then 1 else 0)else 0
set_option maxRecDepth 100000 in
set_option maxHeartbeats 3200000 in
theorem Ph (s:ByteArray) (w:World) (h1:1<=s.size) (hs:s.size<=65536):Calls Tryz.prog 135 #[.string s] w λe w'=>e = .returned (.int .i64 (EJ s))/\w=w':=by
 have HP:=Lib.hid (Tryz.strings_HasPrefix s ⟨#[60,61,62]⟩ w)
 have HI:=Lib.hid (λc=>Tryz.strings_IndexByte ⟨#[43,45,42,47,37,38,124,94,33,61,60,62,40,41,123,125,91,93,59,44]⟩ c w)
 have HN:=Lib.hid (EJ.eq_1 s)
 generalize EJ s=RS at *
 go_enter Tryz.func135,Tryz.ntmps135
 go_wp2_with fail
 refine HP.out.mono ?_
 rintro e w' ⟨rfl,rfl⟩
 generalize Lib.hasPrefix s.data.toList [60,61,62]=hp at *
 cases hp
 · go_upto_region 4 with fail
   generalize s.extract 0 (min 2 (s.size:Int)).toNat=t at *
   cases hb:yZ t
   · obtain⟨b1,b2,b3,b4,b5,b6,b7,b8,b9,b10⟩:=aaM hb
     rw[hb]at HN
     clear hb
     go_wp2_with fail
     refine(HI.out _).mono ?_
     rintro e w'' ⟨rfl,rfl⟩
     rw[show((s[0].toNat:Int).toNat.toUInt8)=s[0]from by simp]
     by_cases hib:(0:Int)<=Lib.indexByte [43,45,42,47,37,38,124,94,33,61,60,62,40,41,123,125,91,93,59,44] s[0]
     · go_wp2_with fail
       go_ret
       exact⟨fC (by rw[HN.out];simp[h1,hib]),rfl⟩
     · go_wp2_with fail
       go_ret
       exact⟨fC (by rw[HN.out];simp[h1,hib]),rfl⟩
   · rw[hb]at HN
     have HT:=Z6 hb
     clear hb
     rcases HT with ht|ht|ht|ht|ht|ht|ht|ht|ht|ht <;>
     · go_wp2_with fail
       go_ret
       exact⟨fC (by rw[HN.out];rfl),rfl⟩
 · go_wp2_with fail
   go_ret
   exact⟨fC (by rw[HN.out];rfl),rfl⟩
def nS (s:ByteArray):Int × Int:=if h:1<=s.size then(if oh (s[0].toNat)=true then(1,jE lV s.data.toList)else if kD (s[0].toNat)=true then(2,jE kD s.data.toList)else if kX (s[0].toNat)=true then(4,jE kX s.data.toList)else if s[0].toNat=35 then(5,jE rQ s.data.toList)else(3,EJ s))else(0,0)
set_option maxHeartbeats 3200000 in
theorem Y5 (s:ByteArray) (w:World) (h1:1<=s.size) (hs:s.size<=65536) :
 Calls Tryz.prog 86 #[.string s] w λe w'=>e = .returned (.tuple #[.int .u8 (nS s).1,.int .i64 (nS s).2])/\w=w':=by
 have HN:=Lib.hid (nS.eq_1 s)
 generalize nS s=RS at *
 obtain⟨R1,R2⟩:=RS
 rw[dif_pos h1]at HN
 have hen:∀ (a b c d:Int),(R1,R2)=(a,b)->(Ending.returned (.tuple #[.int .u8 a,.int .i64 b])=Ending.returned (.tuple #[.int .u8 (R1,R2).1,.int .i64 (R1,R2).2])):=λa b _ _ h=>by cases h;rfl
 have oG:=Lib.hid hen
 clear hen
 by_cases hl:oh (s[0].toNat)=true
 · rw[if_pos hl]at HN
   go_enter Tryz.func86,Tryz.ntmps86
   go_wp2_with (first
    |(go_at_call 129;refine(o5 _ _).mono ?_;rintro e w' ⟨rfl,rfl⟩)
    |(go_at_call 130;refine(Oe s _ (by omega)).mono ?_;rintro e w' ⟨rfl,rfl⟩))
   go_ret2
   exact⟨oG.out _ _ 0 0 HN.out,rfl⟩
 rw[if_neg hl]at HN
 have hl:oh (s[0].toNat)=false:=by simpa using hl
 by_cases hd:kD (s[0].toNat)=true
 · rw[if_pos hd]at HN
   go_enter Tryz.func86,Tryz.ntmps86
   go_wp2_with (first
    |(go_at_call 129;refine(o5 _ _).mono ?_;rintro e w' ⟨rfl,rfl⟩)
    |(go_at_call 132;refine(o6 _ _).mono ?_;rintro e w' ⟨rfl,rfl⟩)
    |(go_at_call 130;refine(Og s _ (by omega)).mono ?_;rintro e w' ⟨rfl,rfl⟩))
   go_ret2
   exact⟨oG.out _ _ 0 0 HN.out,rfl⟩
 rw[if_neg hd]at HN
 have hd2:kD (s[0].toNat)=false:=by simpa using hd
 by_cases hb:kX (s[0].toNat)=true
 · rw[if_pos hb]at HN
   go_enter Tryz.func86,Tryz.ntmps86
   go_wp2_with (first
    |(go_at_call 129;refine(o5 _ _).mono ?_;rintro e w' ⟨rfl,rfl⟩)
    |(go_at_call 132;refine(o6 _ _).mono ?_;rintro e w' ⟨rfl,rfl⟩)
    |(go_at_call 133;refine(ve _ _).mono ?_;rintro e w' ⟨rfl,rfl⟩)
    |(go_at_call 130;refine(Oh s _ (by omega)).mono ?_;rintro e w' ⟨rfl,rfl⟩))
   go_ret2
   exact⟨oG.out _ _ 0 0 HN.out,rfl⟩
 rw[if_neg hb]at HN
 have hb2:kX (s[0].toNat)=false:=by simpa using hb
 by_cases hc:s[0].toNat=35
 · rw[if_pos hc]at HN
   have hci:((s[0].toNat:Nat):Int)=35:=by omega
   go_enter Tryz.func86,Tryz.ntmps86
   go_wp2_with (first
    |(go_at_call 129;refine(o5 _ _).mono ?_;rintro e w' ⟨rfl,rfl⟩)
    |(go_at_call 132;refine(o6 _ _).mono ?_;rintro e w' ⟨rfl,rfl⟩)
    |(go_at_call 133;refine(ve _ _).mono ?_;rintro e w' ⟨rfl,rfl⟩)
    |(go_at_call 130;refine(IQ s _ (by omega)).mono ?_;rintro e w' ⟨rfl,rfl⟩)
    |(go_at_call 135;refine(Ph s _ h1 hs).mono ?_;rintro e w' ⟨rfl,rfl⟩))
   all_goals (go_ret2;first|exact⟨oG.out _ _ 0 0 HN.out,rfl⟩|(exfalso;omega))
 · rw[if_neg hc]at HN
   have hci:¬ ((s[0].toNat:Nat):Int)=35:=by omega
   go_enter Tryz.func86,Tryz.ntmps86
   go_wp2_with (first
    |(go_at_call 129;refine(o5 _ _).mono ?_;rintro e w' ⟨rfl,rfl⟩)
    |(go_at_call 132;refine(o6 _ _).mono ?_;rintro e w' ⟨rfl,rfl⟩)
    |(go_at_call 133;refine(ve _ _).mono ?_;rintro e w' ⟨rfl,rfl⟩)
    |(go_at_call 130;refine(IQ s _ (by omega)).mono ?_;rintro e w' ⟨rfl,rfl⟩)
    |(go_at_call 135;refine(Ph s _ h1 hs).mono ?_;rintro e w' ⟨rfl,rfl⟩))
   all_goals (go_ret2;first|exact⟨oG.out _ _ 0 0 HN.out,rfl⟩|(exfalso;omega))
inductive Tree where
 |mk (kind num:Int) (name:ByteArray) (kids:List Tree)
namespace Tree
def kind:Tree->Int | .mk k _ _ _=>k
def num:Tree->Int | .mk _ n _ _=>n
def name:Tree->ByteArray | .mk _ _ s _=>s
def kids:Tree->List Tree | .mk _ _ _ l=>l
end Tree
def dO (n:Int) (s:ByteArray):Bool:=n == 0 && s.size == 0
def dZ (n:Int) (s:ByteArray):Bool:=n == 0 && dH s
mutual
def aG:Tree->Bool
 |.mk k n s l =>
  if k=1 then decide (0<=n) && (s.size == 0 && l.isEmpty)
  else if k=2\/k=4\/k=5 then dZ n s && l.isEmpty
  else if k=3 then dZ n s && (l.length == 1 && si l)
  else if k=6\/k=7 then dO n s && (l.length == 1 && si l)
  else if 8<=k/\k<=23 then dO n s && (l.length == 2 && si l)
  else false
def si:List Tree->Bool
 | []=>true
 |t :: l=>aG t && si l
end
def iM (t:Tree):Bool:=(t.kind == 2 || t.kind == 3) && aG t
def mJ (t:Tree):Bool:=t.kind == 2 && aG t
def aV (ps:List (Tree->Bool)) (l:List Tree):Bool:=match ps,l with
 | [],[]=>true
 |p :: ps,t :: l=>p t && aV ps l
 |_,_=>false
mutual
def bI:Tree->Bool
 |.mk k n s l =>
  if k=40\/k=41\/k=42\/k=56 then dO n s && aV [iM,aG] l
  else if k=43 then dO n s && aV [iM,iM] l
  else if k=44\/k=45 then dZ n s && aV [iM] l
  else if k=46\/k=47\/k=48\/k=49 then dO n s && aV [iM] l
  else if k=50\/k=51 then dZ n s && (decide (l.length<=8) && l.all mJ)
  else if k=52\/k=53 then dO n s && (aV [aG,λ_=>true,λ_=>true,aG] l && ((ng l).getD 1 false && (ng l).getD 2 false))
  else if k=54 then dZ n s && (aV [aG,λ_=>true,aG] l && (ng l).getD 1 false)
  else if k=55 then dZ n s && (l.length == 1 && (ng l).getD 0 false)
  else false
def gB:Tree->Bool
 |.mk k n s l=>k == 57 && (dO n s && Az l)
def ng:List Tree->List Bool
 | []=>[]
 |t :: l=>gB t :: ng l
def Az:List Tree->Bool
 | []=>true
 |t :: l=>bI t && Az l
end
mutual
def qU:Tree->Nat
 |.mk _ _ _ l=>ja l+1
def ja:List Tree->Nat
 | []=>0
 |t :: l=>max (qU t) (ja l)
end
theorem Jf (l:List Tree):ng l=l.map gB:=by
 induction l with
 |nil=>rw[ng];rfl
 |cons t l ih=>rw[ng,ih];rfl
theorem Yp (l:List Tree):Az l=l.all bI:=by
 induction l with
 |nil=>rw[Az];rfl
 |cons t l ih=>rw[Az,ih];rfl
inductive aa where
 |mk (kind num:Int) (name:ByteArray) (kv:Value) (kids:List aa)
def aa.cells:aa->List Value
 |.mk k n s kv _=>[.int .u8 k,.int .i64 n,.string s,kv]
def aa.kids:aa->List aa
 |.mk _ _ _ _ l=>l
def aa.val:aa->Value
 |.mk k n s kv _ => .agg #[.int .u8 k,.int .i64 n,.string s,kv]
mutual
def aa.t:aa->Tree
 |.mk k n s _ l => .mk k n s (aa.ts l)
def aa.ts:List aa->List Tree
 | []=>[]
 |x :: l=>x.t :: aa.ts l
end
theorem aa.jd (l:List aa):aa.ts l=l.map aa.t:=by
 induction l with
 |nil=>rw[aa.ts];rfl
 |cons t l ih=>rw[aa.ts,ih];rfl
theorem aa.kN (l:List aa):(aa.ts l).length=l.length:=by rw[aa.jd,List.length_map]
theorem aa.yI (l:List aa) (i:Nat) (h:i<l.length):(aa.ts l)[i]'(by rw[aa.kN];exact h)=l[i].t:=by simp[aa.jd]
inductive fJ (w:World):aa->Prop
 |mk {k n:Int} {s:ByteArray} {kv:Value} {kids:List aa} (hk:0<=k/\k<=255) (hn:In64 n) (hs:s.size<=9223372036854775807) (row:aB 4 aa.cells w kv kids) (each:∀ x∈kids,fJ w x):fJ w (.mk k n s kv kids)
theorem fJ.later {w w':World} {x:aa} (h:fJ w x) (hm:Grow w w'):fJ w' x:=by
 induction h with
 |mk hk hn hs row _ ih=>exact .mk hk hn hs (row.later hm) ih
theorem fJ.row {w:World} {k n:Int} {s:ByteArray} {kv:Value} {kids:List aa} (h:fJ w (.mk k n s kv kids)):(0<=k/\k<=255)/\In64 n/\s.size<=9223372036854775807/\aB 4 aa.cells w kv kids/\∀ x∈kids,fJ w x:=by
 cases h with
 |mk hk hn hs row each=>exact⟨hk,hn,hs,row,each⟩
def jG (w:World) (b:Bool) (e:Ending) (w':World):Prop:=e = .returned (.bool b)/\Grow w w'
theorem Nq {s:ByteArray} (h:s.size=0):s.toList.isEmpty=true:=by
 obtain rfl:=Di (s:=s) (by omega)
 have h1:ByteArray.toList ⟨#[]⟩=[]:=by rw[ByteArray.toList_eq]
 rw[h1];rfl
theorem gu {w:World} {X:Nat} {c0 c1 c2 c3:Value} {t:TypeId} (h:w.heap[X]? = some (.cells #[c0,c1,c2,c3] t (0,0))):w.cell? ⟨X,0,none⟩=some c0/\w.cell? ⟨X,1,none⟩=some c1/\w.cell? ⟨X,2,none⟩=some c2/\w.cell? ⟨X,3,none⟩=some c3:=by
 simp[World.cell?,h]
theorem fJ.form {w:World} {k n:Int} {s:ByteArray} {kv:Value} {l:List aa} (h:fJ w (.mk k n s kv l)):∃ a cap,kv = .slice a l.length cap/\l.length<=cap/\l.length<=9223372036854775807:=h.row.2.2.2.1.form
theorem xL {k n:Int} {s:ByteArray} {kv:Value} {l:List aa} {x:aa} (h:x∈l):SizeOf.sizeOf x<SizeOf.sizeOf (aa.mk k n s kv l):=by
 have:=List.sizeOf_lt_of_mem h
 simp
 omega
theorem Oq:∀ (ps:List (Tree->Bool)) (l:List Tree),ps.length≠l.length->aV ps l=false
 | [],[],h=>absurd rfl h
 | [],_ :: _,_=>by simp[aV]
 |_ :: _,[],_=>by simp[aV]
 |p :: ps,t :: l,h=>by
  rw[aV,Oq ps l (by simpa using h),Bool.and_false]
theorem NJ:∀ (ps:List (Tree->Bool)) (l:List Tree),ps.length=l.length->(∀ i (h1:i<ps.length) (h2:i<l.length),ps[i] l[i]=true)->aV ps l=true
 | [],[],_,_=>by simp[aV]
 | [],_ :: _,h,_=>by simp at h
 |_ :: _,[],h,_=>by simp at h
 |p :: ps,t :: l,h,hh=>by
  have h0:=hh 0 (by simp) (by simp)
  simp at h0
  rw[aV,h0,NJ ps l (by simpa using h) (λi h1 h2=>hh (i+1) (Nat.succ_lt_succ h1) (Nat.succ_lt_succ h2))]
  rfl
theorem Nu:∀ (ps:List (Tree->Bool)) (l:List Tree) (i:Nat) (h1:i<ps.length) (h2:i<l.length),ps[i] l[i]=false->aV ps l=false
 |p :: ps,t :: l,0,_,_,h=>by
  simp at h
  rw[aV,h,Bool.false_and]
 |p :: ps,t :: l,i+1,h1,h2,h=>by
  rw[aV,Nu ps l i (Nat.lt_of_succ_lt_succ h1) (Nat.lt_of_succ_lt_succ h2) h,Bool.and_false]
set_option maxRecDepth 100000 in
theorem uZ (k n:Int) (s:ByteArray) (a:Option Addr) (l:List aa) (cap:Nat) (w:World):Calls Tryz.prog 114 #[.agg #[.int .u8 k,.int .i64 n,.string s,.slice a l.length cap]] w (jG w (dO n s)):=by
 have HG:=Lib.hid (show Grow w (w.alloc (.cells #[.int .u8 k,.int .i64 n,.string s,.slice a l.length cap] 26))from(Mv.refl _ _).alloc _)
 by_cases hn:n=0
 · subst hn
   by_cases hs:s.size=0
   · have hemp:=Nq hs
     have HR:=Lib.hid (show dO 0 s=true from by simp[dO,hs])
     clear hs
     go_enter Tryz.func114,Tryz.ntmps114
     go_wp2_with fail
     go_ret
     exact⟨ax HR.out.symm,HG.out⟩
   · have hne:=xK (s:=s) (by omega)
     have HR:=Lib.hid (show dO 0 s=false from by simp[dO,hs])
     clear hs
     go_enter Tryz.func114,Tryz.ntmps114
     go_wp2_with fail
     go_ret
     exact⟨ax HR.out.symm,HG.out⟩
 · have hn2:(n == 0)=false:=by simpa using hn
   have HR:=Lib.hid (show dO n s=false from by simp[dO,hn])
   go_enter Tryz.func114,Tryz.ntmps114
   go_wp2_with fail
   go_ret
   exact⟨ax HR.out.symm,HG.out⟩
set_option maxRecDepth 100000 in
theorem u6 (k n:Int) (s:ByteArray) (a:Option Addr) (l:List aa) (cap:Nat) (w:World) (hs:s.size<=9223372036854775807):Calls Tryz.prog 157 #[.agg #[.int .u8 k,.int .i64 n,.string s,.slice a l.length cap]] w (jG w (dZ n s)):=by
 have HG:=Lib.hid (show Grow w (w.alloc (.cells #[.int .u8 k,.int .i64 n,.string s,.slice a l.length cap] 26))from(Mv.refl _ _).alloc _)
 by_cases hn:n=0
 · subst hn
   have HR:=Lib.hid (show dZ 0 s=dH s from by simp[dZ])
   have HN:=Lib.hid (DI s (w.alloc (.cells #[.int .u8 k,.int .i64 0,.string s,.slice a l.length cap] 26)) hs)
   go_enter Tryz.func157,Tryz.ntmps157
   go_wp2_with fail
   refine HN.out.mono ?_
   rintro e w1 ⟨rfl,hg1⟩
   have aP:=Lib.hid (Mv.trans HG.out hg1 (λ_ e=>e.elim))
   clear hg1
   go_wp2_with fail
   go_ret
   exact⟨ax HR.out.symm,aP.out⟩
 · have hn2:(n == 0)=false:=by simpa using hn
   have HR:=Lib.hid (show dZ n s=false from by simp[dZ,hn])
   go_enter Tryz.func157,Tryz.ntmps157
   go_wp2_with fail
   go_ret
   exact⟨ax HR.out.symm,HG.out⟩
def fnC (f:Nat):List Value:=[.func (.func f) #[] #[]]
set_option maxRecDepth 100000 in
set_option maxHeartbeats 1600000 in
theorem pE (k n:Int) (s:ByteArray) (kv:Value) (l:List aa) (fs:List Nat) (ps:List (Tree->Bool)) (tv:Value) (w:World) (hx:fJ w (.mk k n s kv l)) (ht:aB 1 fnC w tv fs) (hl:ps.length=fs.length)
 (hf3:∀ f∈fs,f=156\/f=155\/f=77)
 (hc:∀ i (hi:i<fs.length) (hk:i<l.length) (hp:i<ps.length) (w':World),Grow w w'->Calls Tryz.prog fs[i] #[l[i].val] w' (jG w' (ps[i] l[i].t))) :
 Calls Tryz.prog 154 #[aa.val (.mk k n s kv l),tv] w (jG w (aV ps (aa.ts l))):=by
 obtain⟨a,cap,rfl,hcap,hlen⟩:=hx.form
 obtain⟨ta,agN,rfl,agv,agw⟩:=ht.form
 have HX:=Lib.hid hx
 have HT:=Lib.hid ht
 have HC:=Lib.hid hc
 have Gw:=Lib.hid hl
 have HF3:=Lib.hid hf3
 clear hx ht hc hl hf3
 have HG:=Lib.hid (show Grow w (w.alloc (.cells #[.int .u8 k,.int .i64 n,.string s,.slice a l.length cap] 26))from(Mv.refl _ _).alloc _)
 have HB:=Lib.hid (heap_alloc_new w (.cells #[.int .u8 k,.int .i64 n,.string s,.slice a l.length cap] 26))
 simp only[aa.val]
 by_cases hle:l.length=fs.length
 case neg =>
  have h1:(l.length == fs.length)=false:=by simpa using hle
  have HR:=Lib.hid (show aV ps (aa.ts l)=false from Oq _ _ (by rw[aa.kN,Gw.out];omega))
  go_enter Tryz.func154,Tryz.ntmps154
  go_wp2_with fail
  go_ret
  exact⟨ax HR.out.symm,HG.out⟩
 have zL:=Lib.hid hle
 rw[hle]at HB HG hcap
 rw[hle]
 clear hle
 go_enter Tryz.func154,Tryz.ntmps154
 go_wp2_with fail
 generalize w.alloc (.cells #[.int .u8 k,.int .i64 n,.string s,.slice a fs.length cap] 26)=w1 at *
 go_loopw [15] (λt wr=>∃ j:Nat,t = .int .i64 j/\j<=fs.length/\(∀ i (h1:i<ps.length) (h2:i<l.length),i<j->ps[i] l[i].t=true)/\Grow w1 wr) (λt _=>fs.length - (intOf t).toNat)
 case atStart=>exact⟨0,rfl,Nat.zero_le _,λi _ _ h=>by omega,Mv.refl _ _⟩
 obtain⟨j,rfl,hj,hall,hgr⟩:=hrel
 have ek:=Lib.hid hall
 have aU:=Lib.hid hgr
 have aS:=Lib.hid (Mv.trans HG.out hgr (λ_ e=>e.elim))
 have hb:=aJ HB.out hgr
 obtain⟨m0,m1,m2,m3⟩:=gu hb
 have hlb:=lt_of_block hb
 clear hall hgr hb
 by_cases hlt:j<fs.length
 · have hjl:j<l.length:=by rw[zL.out];exact hlt
   have hjp:j<ps.length:=by rw[Gw.out];exact hlt
   obtain⟨tb,agO,agx,e,_,htc⟩:=(HT.out.later aS.out).at hlt
   simp only[Value.slice.injEq,true_and]at e
   obtain⟨rfl,rfl⟩:=e
   have f0:=htc 0 _ rfl
   simp only[Nat.add_zero,Nat.mul_one]at f0
   have agP:tb<wr.heap.size:=World.block_lt_of_cell? wr _ f0
   obtain⟨b,off,cap',e,_,hcc⟩:=(HX.out.row.2.2.2.1.later aS.out).at hjl
   rw[zL.out]at e
   simp only[Value.slice.injEq,true_and]at e
   obtain⟨rfl,rfl⟩:=e
   have nA:=Lib.hid (HC.out j hlt hjl hjp wr aS.out)
   have hxo:=HX.out.row.2.2.2.2 l[j] (List.getElem_mem hjl)
   have HST:=Lib.hid (show(ps[j] l[j].t=true->∀ i (h1:i<ps.length) (h2:i<l.length),i<j+1->ps[i] l[i].t=true)from λh i h1 h2 hi=>by
    rcases Nat.lt_or_ge i j with h3|h3
    · exact ek.out i h1 h2 h3
    · obtain rfl:i=j:=by omega
      exact h)
   have dX:=Lib.hid (show(ps[j] l[j].t=false->aV ps (aa.ts l)=false)from λh=>Nu ps (aa.ts l) j hjp (by rw[aa.kN];exact hjl) (by rw[aa.yI l j hjl];exact h))
   generalize hbv:ps[j] l[j].t=bv at *
   generalize l[j]=x at nA hxo hcc
   have hfj:=HF3.out fs[j] (List.getElem_mem hlt)
   generalize fs[j]=fj at *
   obtain⟨xk,xn,xs,xkv,xl⟩:=x
   obtain⟨xa,K5,rfl,-,-⟩:=hxo.form
   simp only[aa.val]at nA
   have c0:=hcc 0 _ rfl
   have c1:=hcc 1 _ rfl
   have c2:=hcc 2 _ rfl
   have c3:=hcc 3 _ rfl
   simp only[Nat.add_zero]at c0
   have hbl:b<wr.heap.size:=World.block_lt_of_cell? wr _ c0
   clear htc hcc hxo hbv
   rcases hfj with rfl|rfl|rfl
   all_goals
    go_wp2_with fail
    refine nA.out.mono ?_
    rintro e w2 ⟨rfl,hg2⟩
    have HG2:=Lib.hid (Mv.trans aU.out hg2 (λ_ e=>e.elim))
    have HGF:=Lib.hid (Mv.trans aS.out hg2 (λ_ e=>e.elim))
    clear hg2
    cases bv with
    |true =>
     have dU:=Lib.hid (HST.out rfl)
     go_wp2_with fail
     go_roundw
     case rel=>exact⟨j+1,by go_num,by omega,dU.out,HG2.out⟩
     case measure=>simp[intOf];omega
    |false =>
     have HR:=Lib.hid (dX.out rfl)
     go_wp2_with fail
     go_ret
     exact⟨ax HR.out.symm,HGF.out⟩
 obtain rfl:j=fs.length:=by omega
 have HR:=Lib.hid (show aV ps (aa.ts l)=true from NJ _ _ (by rw[aa.kN,Gw.out,zL.out]) (λi h1 h2=>by
  rw[aa.yI l i (by rw[aa.kN]at h2;exact h2)]
  exact ek.out i h1 (by rw[aa.kN]at h2;exact h2) (by rw[← Gw.out];exact h1)))
 go_wp2_with fail
 go_ret
 exact⟨ax HR.out.symm,aS.out⟩
set_option maxRecDepth 100000 in
set_option maxHeartbeats 1600000 in
theorem Iu (kv:Value) (l:List aa) (f:Nat) (p:Tree->Bool) (w:World) (hrow:aB 4 aa.cells w kv l) (hx:∀ x∈l,fJ w x) (hf2:f=116\/f=158)
 (hc:∀ x∈l,∀ (w':World),Grow w w'->Calls Tryz.prog f #[x.val] w' (jG w' (p x.t))) :
 Calls Tryz.prog 115 #[kv,.func (.func f) #[] #[]] w (jG w ((aa.ts l).all p)):=by
 obtain⟨a,cap,rfl,hcap,hlen⟩:=hrow.form
 have iE:=Lib.hid hrow
 have HX:=Lib.hid hx
 have HC:=Lib.hid hc
 clear hrow hx hc
 rcases hf2 with rfl|rfl
 all_goals
  go_enter Tryz.func115,Tryz.ntmps115
  go_wp2_with fail
  go_loopw [9] (λt wr=>∃ j:Nat,t = .int .i64 j/\j<=l.length/\(∀ i (h2:i<l.length),i<j->p l[i].t=true)/\Grow w wr) (λt _=>l.length - (intOf t).toNat)
  case atStart=>exact⟨0,rfl,Nat.zero_le _,λi _ h=>by omega,Mv.refl _ _⟩
  obtain⟨j,rfl,hj,hall,hgr⟩:=hrel
  have ek:=Lib.hid hall
  have aU:=Lib.hid hgr
  clear hall hgr
  by_cases hlt:j<l.length
  · obtain⟨b,off,cap',e,_,hcc⟩:=(iE.out.later aU.out).at hlt
    simp only[Value.slice.injEq,true_and]at e
    obtain⟨rfl,rfl⟩:=e
    have hxo:=HX.out l[j] (List.getElem_mem hlt)
    have nA:=Lib.hid (λw' (h:Grow wr w')=>HC.out l[j] (List.getElem_mem hlt) w' (Mv.trans aU.out h (λ_ e=>e.elim)))
    have HST:=Lib.hid (show(p l[j].t=true->∀ i (h2:i<l.length),i<j+1->p l[i].t=true)from λh i h2 hi=>by
     rcases Nat.lt_or_ge i j with h3|h3
     · exact ek.out i h2 h3
     · obtain rfl:i=j:=by omega
       exact h)
    have dX:=Lib.hid (show(p l[j].t=false->(aa.ts l).all p=false)from λh=>List.all_eq_false.2 ⟨l[j].t,by rw[aa.jd];exact List.mem_map.2 ⟨l[j],List.getElem_mem hlt,rfl⟩,by rw[h];simp⟩)
    generalize hbv:p l[j].t=bv at *
    generalize l[j]=x at nA hxo hcc
    obtain⟨xk,xn,xs,xkv,xl⟩:=x
    obtain⟨xa,K5,rfl,-,-⟩:=hxo.form
    simp only[aa.val]at nA
    have c0:=hcc 0 _ rfl
    have c1:=hcc 1 _ rfl
    have c2:=hcc 2 _ rfl
    have c3:=hcc 3 _ rfl
    simp only[Nat.add_zero]at c0
    have hbl:b<wr.heap.size:=World.block_lt_of_cell? wr _ c0
    have Gx:=Lib.hid (nA.out (wr.alloc (.cells #[.int .u8 xk,.int .i64 xn,.string xs,.slice xa xl.length K5] 26)) ((Mv.refl _ _).alloc _))
    have aK:=Lib.hid (aU.out.alloc (.cells #[.int .u8 xk,.int .i64 xn,.string xs,.slice xa xl.length K5] 26))
    clear hcc hxo hbv
    go_wp2_with fail
    refine Gx.out.mono ?_
    rintro e w2 ⟨rfl,hg2⟩
    have HG2:=Lib.hid (Mv.trans aK.out hg2 (λ_ e=>e.elim))
    clear hg2
    cases bv with
    |true =>
     have dU:=Lib.hid (HST.out rfl)
     go_wp2_with fail
     go_roundw
     case rel=>exact⟨j+1,by go_num,by omega,dU.out,HG2.out⟩
     case measure=>simp[intOf];omega
    |false =>
     have HR:=Lib.hid (dX.out rfl)
     go_wp2_with fail
     go_ret
     exact⟨ax HR.out.symm,HG2.out⟩
  obtain rfl:j=l.length:=by omega
  have HR:=Lib.hid (show(aa.ts l).all p=true from List.all_eq_true.2 λt ht=>by
   rw[aa.jd]at ht
   obtain⟨x,hx,rfl⟩:=List.mem_map.1 ht
   obtain⟨i,hi,rfl⟩:=List.mem_iff_getElem.1 hx
   exact ek.out i hi hi)
  go_wp2_with fail
  go_ret
  exact⟨ax HR.out.symm,aU.out⟩
end Go.Proofs.YtadecgbblajifaaGreatDoor
