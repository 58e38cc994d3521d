import Derived.Test.YtbpodipdfohikaaGreatK02
import Derived.Deep.AppendSrc
import Derived.Deep.MidRow
import Derived.Deep.Upon
import Derived.Laws.MakeOwn
set_option linter.unusedSimpArgs false
set_option linter.unusedVariables false
set_option maxRecDepth 100000
set_option maxHeartbeats 25600000
namespace Go.Proofs.YtbpodipdfohikaaGreat
open Go.RowKit Go.Instr
def flat {α:Type} (f:α->List Value) (l:List α):List Value:=(l.map f).flatten
theorem Gh {α:Type} (f:α->List Value) (a b:List α):flat f (a ++ b)=flat f a ++ flat f b:=by simp[flat]
theorem oN {α:Type} (f:α->List Value) (n:Nat) (h:∀ x,(f x).length=n):∀ l:List α,(flat f l).length=l.length * n
 | []=>by simp[flat]
 |x :: l=>by
  have:=oN f n h l
  simp only[flat,List.map_cons,List.flatten_cons,List.length_append,h,List.length_cons]at this ⊢
  rw[this,Nat.add_mul];omega
theorem BC {α:Type} (f:α->List Value) (n:Nat) (h:∀ x,(f x).length=n):∀ (l:List α) (i j:Nat) (hi:i<l.length),j<n->(flat f l)[i * n+j]? = (f l[i])[j]?
 | [],i,j,hi,_=>by simp at hi
 |x :: l,0,j,_,hj=>by
  simp only[flat,List.map_cons,List.flatten_cons,Nat.zero_mul,Nat.zero_add,List.getElem_cons_zero]
  rw[List.getElem?_append_left (by rw[h];exact hj)]
 |x :: l,i+1,j,hi,hj=>by
  have:=BC f n h l i j (by simpa using hi) hj
  simp only[flat,List.map_cons,List.flatten_cons,List.getElem_cons_succ]at this ⊢
  rw[List.getElem?_append_right (by rw[h,Nat.add_mul];omega),h,show(i+1) * n+j - n=i * n+j by rw[Nat.add_mul];omega]
  exact this
theorem dW {α:Type} {f:α->List Value} {n e base:Nat} {w:World} {v:Value} {l:List α} (hf:∀ x,(f x).length=n) (h:w.ownsRow base e n v l.length (flat f l)):ay n f w v l:=by
 rcases h.2 with⟨rfl,hl⟩|⟨g,cap,cur,rfl,hb,hg,hnc,hcm,hcs,htake⟩
 · obtain rfl:l=[]:=List.eq_nil_of_length_eq_zero hl
   exact ay.nil _ _ _
 · refine⟨_,cap,rfl,hnc,by unfold maxLen at hcm;omega,λi x hx=>⟨g,0,rfl,λj u hu => ?_⟩⟩
   have hi:=(List.getElem?_eq_some_iff.1 hx).1
   have hj:j<n:=by rw[← hf x];exact(List.getElem?_eq_some_iff.1 hu).1
   have hx':l[i]=x:=by rw[List.getElem?_eq_getElem hi]at hx;simpa using hx
   have h1:=BC f n hf l i j hi hj
   rw[hx',hu]at h1
   have hlt:i * n+j<l.length * n:=by
    have:=Nat.mul_le_mul_right n (show i+1<=l.length from hi)
    rw[Nat.add_mul]at this;omega
   have h2:cur[i * n+j]? = some u:=by
    rw[← htake,List.getElem?_take,if_pos hlt]at h1
    simpa using h1
   simp only[World.cell?,hg,Option.isSome_none,Bool.false_eq_true,if_false,Nat.zero_add]
   exact h2
theorem bu {α:Type} {f:α->List Value} {n e base:Nat} {w w':World} {v:Value} {l:List α} {O:Nat->Prop} (h:w.ownsRow base e n v l.length (flat f l)) (hm:Mv O w w') (hO:∀ g,v.ownBlock=some g->¬ O g):w'.ownsRow base e n v l.length (flat f l):=by
 refine⟨h.1,?_⟩
 rcases h.2 with h1|⟨g,cap,cur,rfl,hb,hg,rest⟩
 · exact .inl h1
 · exact .inr ⟨g,cap,cur,rfl,hb,by rw[hm.block g (lt_of_block hg) (hO g rfl)];exact hg,rest⟩
theorem dX {α:Type} {f:α->List Value} {n e base:Nat} {w:World} {v:Value} {l:List α} (h:w.ownsRow base e n v l.length (flat f l)):∃ a c,v = .slice a l.length c:=by
 rcases h.2 with⟨rfl,hl⟩|⟨g,cap,cur,rfl,_⟩
 · exact⟨none,0,by rw[hl]⟩
 · exact⟨_,_,rfl⟩
theorem block_setCell {w:World} {p:Addr} {c:Array Value} {t:TypeId} {z:Nat × Nat} (h:w.heap[p.block]? = some (.cells c t z)) (hp:p.spot=none) (u:Value) :
 (w.setCell p u).heap[p.block]? = some (.cells (c.setIfInBounds p.off u) t z):=by
 have hlt:=lt_of_block h
 have h':w.heap[p.block] = .cells c t z:=by simpa[Array.getElem?_eq_getElem hlt]using h
 show(w.heap.modify p.block _)[p.block]? = _
 rw[Array.getElem?_eq_getElem (by simpa using hlt),Array.getElem_modify_self,h']
 simp[hp]
theorem flat_get {α:Type} (f:α->List Value) (n:Nat) (hn:0<n) (h:∀ x,(f x).length=n) (l:List α) (j:Nat) (u:Value) (hu:(flat f l)[j]? = some u):∃ i r,j=i * n+r/\∃ hi:i<l.length,(f l[i])[r]? = some u:=by
 have hj:j<l.length * n:=by have:=(List.getElem?_eq_some_iff.1 hu).1;rw[oN f n h]at this;exact this
 have hi:j / n<l.length:=(Nat.div_lt_iff_lt_mul hn).2 hj
 have hr:j % n<n:=Nat.mod_lt _ hn
 have he:j / n * n+j % n=j:=by rw[Nat.mul_comm];exact Nat.div_add_mod j n
 have h1:=BC f n h l (j / n) (j % n) hi hr
 rw[he,hu]at h1
 exact⟨j / n,j % n,he.symm,hi,h1.symm⟩
theorem ay.dF {α:Type} {n:Nat} {f:α->List Value} {w:World} {b:Nat} {cs:Array Value} {t:TypeId} {fr:Nat × Nat} {l:List α} (hf:∀ x,(f x).length=n) (h:w.heap[b]? = some (.cells cs t fr)) (hl:cs.toList=flat f l) (hn:l.length<=9223372036854775807):ay n f w (.slice (some ⟨b,0,none⟩) l.length l.length) l:=by
 refine⟨_,_,rfl,Nat.le_refl _,hn,λi x hx=>⟨b,0,rfl,λj u hu => ?_⟩⟩
 have hi:=(List.getElem?_eq_some_iff.1 hx).1
 have hj:j<n:=by rw[← hf x];exact(List.getElem?_eq_some_iff.1 hu).1
 have hx':l[i]=x:=by rw[List.getElem?_eq_getElem hi]at hx;simpa using hx
 have h1:=BC f n hf l i j hi hj
 rw[hx',hu,← hl]at h1
 simp only[World.cell?,h,Option.isSome_none,Bool.false_eq_true,if_false,Nat.zero_add]
 simpa using h1
theorem ay.stay {α:Type} {n:Nat} {f:α->List Value} {w w':World} {v:Value} {l:List α} {O:Nat->Prop} (h:ay n f w v l) (hm:Mv O w w') (hO:∀ g,v.ownBlock=some g->¬ O g):ay n f w' v l:=by
 obtain⟨a,cap,rfl,h2,h3,h4⟩:=h
 refine⟨a,cap,rfl,h2,h3,λi x hx => ?_⟩
 obtain⟨b,off,rfl,hc⟩:=h4 i x hx
 refine⟨b,off,rfl,λj u hu => ?_⟩
 have h5:=hc j u hu
 rw[← h5]
 exact World.cell?_of_block (w:=w) (w':=w') (hm.block _ (World.block_lt_of_cell? w _ h5) (hO b (by simp[Value.ownBlock])))
theorem uN {α β:Type} {f:α->List Value} {h:β->List Value} {n m e e' base base':Nat} {w:World} {v v':Value} {l:List α} {l':List β} (h1:w.ownsRow base e n v l.length (flat f l)) (h2:w.ownsRow base' e' m v' l'.length (flat h l')) (he:e≠e'):∀ g,v.ownBlock=some g->¬ v'.ownBlock=some g:=by
 intro g hg hg'
 rcases h1.2 with⟨rfl,_⟩|⟨g1,c1,u1,rfl,_,hb1,_⟩
 · simp[Value.ownBlock]at hg
 · rcases h2.2 with⟨rfl,_⟩|⟨g2,c2,u2,rfl,_,hb2,_⟩
   · simp[Value.ownBlock]at hg'
   · simp[Value.ownBlock]at hg hg'
     subst hg hg'
     rw[hb1]at hb2
     simp only[Option.some.injEq,Obj.cells.injEq]at hb2
     exact he hb2.2.1
theorem bS {w:World} {b:Nat} {x:Obj} (h:w.heap[b]? = some x) (o:Obj):(w.alloc o).heap[b]? = some x:=by
 have hb:b<w.heap.size:=(Array.getElem?_eq_some_iff.1 h).1
 rw[Below.heap_alloc _ _ _ hb];exact h
theorem run_append_nothing {P:Program} (w:World) (t ty e:TypeId) (i:TypeInfo) (ht:P.underlying t=some (.slice e)) (hi:P.info? e=some i) (a:Option Addr) (n cap c:Nat) (hn:n<=cap) :
 (Builtin.append_ #[t,t] ty #[.slice a n cap,.slice none 0 c]).run P w = .ok (.slice a n cap) w:=by
 have hf:=run_firstCells_none (P:=P) w i.size 0 0 c
 cases a with
 |none=>simp[Builtin.append_,run_underlying ht,sizeOf,typeInfo,hi,Builtin.lenOf,hn,hf]
 |some a=>simp[Builtin.append_,run_underlying ht,sizeOf,typeInfo,hi,Builtin.lenOf,hn,hf,storeCells]
structure Elem (P:Program) (t e:TypeId) (n bytes:Nat):Prop where
 ht:P.underlying t=some (.slice e)
 hi:∃ i z,P.info? e=some i/\i.zero=some z/\i.size=n/\i.bytes=bytes/\z.cells.size=n
 hn:0<n
 hb:bytes<=1000
theorem Elem.of {P:Program} {t e:TypeId} {n bytes:Nat} {z:Value} (ht:P.underlying t=some (.slice e)) (h:(P.info? e).map (λi=>(i.zero,i.size,i.bytes))=some (some z,n,bytes)) (hz:z.cells.size=n) (hn:0<n) (hb:bytes<=1000):Elem P t e n bytes:=by
 obtain⟨i0,hi,hz0,hz1,hz2⟩:=info_parts h
 exact⟨ht,⟨i0,z,hi,hz0,hz1,hz2,hz⟩,hn,hb⟩
section
variable {P:Program} {t e:TypeId} {n bytes:Nat} {α:Type} {f:α->List Value}
theorem kz (E:Elem P t e n bytes) (hf:∀ x,(f x).length=n) (v s:Value) (xs l:List α) (base:Nat) (w:World) (hrow:w.ownsRow base e n v xs.length (flat f xs)) (hs:ay n f w s l) (h1:∀ x∈l,∀ u∈f x,u.oneCell'=true) (hb:base<=w.heap.size) (hlen:xs.length+l.length<=1000000) :
 ∃ a' c' w2,(nJ P t t v s w/\lW P t t v s w = .slice a' (xs.length+l.length) c'/\appW P t t v s w=w2) /\
  w2.ownsRow base e n (.slice a' (xs.length+l.length) c') (xs ++ l).length (flat f (xs ++ l))/\Mv (λb=>v.ownBlock=some b) w w2/\(∀ g,(Value.slice a' (xs.length+l.length) c').ownBlock=some g->v.ownBlock=some g\/w.heap.size<=g):=by
 obtain⟨i,z,hi,hz,hsz,hby,hzc⟩:=E.hi
 obtain⟨sa,sc,rfl,hsc,hsl,hcell⟩:=hs
 cases sa with
 |none =>
  obtain rfl:l=[]:=by
   cases l with
   |nil=>rfl
   |cons x l=>obtain⟨b,off,e,_⟩:=hcell 0 x rfl;cases e
  obtain⟨va,vc,hv⟩:=dX hrow
  have hcap:xs.length<=vc:=by
   rcases hrow.2 with⟨e1,h0⟩|⟨g,cap,cur,e1,hb1,hg,hnc,_⟩
   · rw[hv]at e1;simp at e1;omega
   · rw[hv]at e1;simp at e1;omega
  subst hv
  have hr:=run_append_nothing w t t e i E.ht hi va xs.length vc sc hcap
  obtain⟨hok,hv,hw⟩:=zP hr
  refine⟨va,vc,w,⟨hok,by simpa using hv,hw⟩,by simpa using hrow,Mv.refl _ _,λg hg => .inl (by simpa using hg)⟩
 |some a =>
  have hnews:∀ j u,(flat f l)[j]? = some u->w.cell? (a.add j)=some u:=λj u hu=>by
   obtain⟨i',r,rfl,hi',hu⟩:=flat_get _ n E.hn hf l j u hu
   obtain⟨b,off,e1,hc⟩:=hcell i' _ (List.getElem?_eq_getElem hi')
   simp only[Option.some.injEq]at e1
   subst e1
   have:=hc r u hu
   have e2:(⟨b,off,none⟩:Addr).add (i' * n+r)=⟨b,off+i' * n+r,none⟩:=by unfold Addr.add;split <;> simp_all [Nat.add_assoc]
   rw[e2];exact this
  have Ip:(xs.length+l.length) * bytes<=140737488355328:=by
   have:=Nat.mul_le_mul hlen E.hb
   omega
  obtain⟨v',w2,hr,hown1,hgrow,_,hnew⟩:=Td (P:=P) w base t t e i z n bytes E.ht hi hz hsz hby hzc E.hn v _ _ hrow a l.length sc (flat f l) (oN _ n hf l) hnews
   (λu hu=>by
    simp only[flat,List.mem_flatten,List.mem_map]at hu
    obtain⟨_,⟨o,ho,rfl⟩,hu⟩:=hu
    exact h1 o ho u hu)
   (by unfold maxLen;omega) Ip hb
  have hform:∃ a' c',v' = .slice a' (xs.length+l.length) c':=by
   rcases hown1.2 with⟨rfl,h0⟩|⟨g,cap,cur,rfl,_⟩
   · exact⟨none,0,by rw[h0]⟩
   · exact⟨_,_,rfl⟩
  obtain⟨a',c',rfl⟩:=hform
  obtain⟨hok,hv,hw2⟩:=zP hr
  refine⟨a',c',w2,⟨hok,hv,hw2⟩,?_,(Mv.refl _ _).grown hgrow (λk hk => .inl hk),λg hg=>hnew g hg⟩
  rw[Gh,List.length_append];exact hown1
theorem Mj (E:Elem P t e n bytes) (hf:∀ x,(f x).length=n) (s:Value) (l:List α) (g:Nat) (w:World) (hg:w.heap[g]? = some (.cells #[] e (0,0))) (hs:ay n f w s l) (h1:∀ x∈l,∀ u∈f x,u.oneCell'=true) (hlen:l.length<=1000000) :
 ∃ a' c' w2,(nJ P t t (.slice (some ⟨g,0,none⟩) 0 0) s w/\lW P t t (.slice (some ⟨g,0,none⟩) 0 0) s w = .slice a' l.length c'/\appW P t t (.slice (some ⟨g,0,none⟩) 0 0) s w=w2) /\
  w2.ownsRow g e n (.slice a' l.length c') l.length (flat f l)/\Grow w w2:=by
 have hgl:=lt_of_block hg
 have hrow:w.ownsRow g e n (.slice (some ⟨g,0,none⟩) 0 0) ([]:List α).length (flat f []):=⟨by simp[flat],.inr ⟨g,0,#[],rfl,Nat.le_refl _,hg,Nat.le_refl _,by simp,by simp,by simp[flat]⟩⟩
 obtain⟨a',c',w2,⟨hok,hv,hw⟩,h2,h3,-⟩:=kz E hf (.slice (some ⟨g,0,none⟩) 0 0) s [] l g w hrow hs h1 (Nat.le_of_lt hgl) (by simpa using hlen)
 simp only[List.length_nil,Nat.zero_add,List.nil_append]at hv h2
 refine⟨a',c',w2,⟨hok,hv,hw⟩,h2,⟨h3.os,h3.tape,h3.output,h3.size,λk hk _ => ?_⟩⟩
 by_cases hkg:k=g
 · subst hkg
   obtain⟨i,z,hi,hz,hsz,hby,hzc⟩:=E.hi
   obtain⟨sa,sc,rfl,hsc,hsl,hcell⟩:=hs
   have hrun:=G8 hok
   rw[hv,hw]at hrun
   cases sa with
   |none =>
    obtain rfl:l=[]:=by
     cases l with
     |nil=>rfl
     |cons x l=>obtain⟨b,off,e,_⟩:=hcell 0 x rfl;cases e
    have hr2:=run_append_nothing w t t e i E.ht hi (some ⟨k,0,none⟩) 0 0 sc (Nat.le_refl _)
    simp only[List.length_nil]at hrun
    rw[hrun]at hr2
    simp only[Result.ok.injEq]at hr2
    rw[hr2.2]
   |some a =>
    have hnews:∀ j u,(flat f l)[j]? = some u->w.cell? (a.add j)=some u:=λj u hu=>by
     obtain⟨i',r,rfl,hi',hu⟩:=flat_get _ n E.hn hf l j u hu
     obtain⟨b,off,e1,hc⟩:=hcell i' _ (List.getElem?_eq_getElem hi')
     simp only[Option.some.injEq]at e1
     subst e1
     have:=hc r u hu
     have e2:(⟨b,off,none⟩:Addr).add (i' * n+r)=⟨b,off+i' * n+r,none⟩:=by unfold Addr.add;split <;> simp_all [Nat.add_assoc]
     rw[e2];exact this
    rcases Nat.eq_zero_or_pos l.length with h0|h0
    · obtain rfl:l=[]:=List.eq_nil_of_length_eq_zero h0
      have hr2:=run_append_room (P:=P) w t t e i E.ht hi k 0 0 #[] hg a 0 sc [] (by simp) (by simp) (by simp) (Nat.le_refl _) (by simp)
      simp only[List.length_nil]at hrun
      rw[hrun]at hr2
      simp only[Result.ok.injEq]at hr2
      rw[hr2.2,hg]
      have:=setRow_heap w k #[] ([]:List Value).toArray _ _ hg
      simpa using this
    · have Ip:l.length * i.bytes<=140737488355328:=by
       rw[hby]
       have:=Nat.mul_le_mul hlen E.hb
       omega
      have hr2:=run_append_grow (P:=P) w t t e i _ E.ht hi hz ⟨k,0,none⟩ 0 0 [] (by simp) (by simp) a l.length sc (flat f l) (by rw[hsz];exact oN _ n hf l) hnews (by omega) (by omega) (growslice_fits (by omega) (by simpa using Ip))
      rw[hrun]at hr2
      simp only[Result.ok.injEq]at hr2
      rw[hr2.2]
      exact Below.heap_alloc w.drew _ k hk
 · exact h3.block k hk (λe=>hkg (by simp[Value.ownBlock]at e;exact e.symm))
end
theorem GQ (b off k:Nat):(⟨b,off,none⟩:Addr).add k=⟨b,off+k,none⟩:=by unfold Addr.add;split <;> simp_all
section
variable {P:Program} {t e:TypeId} {n bytes:Nat} {α:Type} {f:α->List Value}
def vO (n:Nat) (f:α->List Value) (w:World) (base:Nat) (v:Value) (l:List α):Prop :=
 ay n f w v l/\∃ b off cap,v = .slice (some ⟨b,off,none⟩) l.length cap/\(base<=b/\b<w.heap.size)/\l.length<=cap /\
  (∀ j,j<cap * n->(w.cell? ⟨b,off+j,none⟩).isSome=true)/\∀ j,w.frozen? ⟨b,j,none⟩=false
theorem Ku {w w':World} {b:Nat} (h:w'.heap[b]? = w.heap[b]?) (j:Nat):w'.frozen? ⟨b,j,none⟩=w.frozen? ⟨b,j,none⟩:=by simp[World.frozen?,h]
theorem vO.keep {w w':World} {base:Nat} {v:Value} {l:List α} {O:Nat->Prop} (h:vO n f w base v l) (hm:Mv O w w') (hO:∀ g,v.ownBlock=some g->¬ O g):vO n f w' base v l:=by
 obtain⟨hr,b,off,cap,rfl,⟨hb,hl⟩,hc,hs,hz⟩:=h
 have hbk:=hm.block b hl (hO b rfl)
 refine⟨?_,b,off,cap,rfl,⟨hb,Nat.lt_of_lt_of_le hl hm.size⟩,hc,λj hj => ?_,λj => ?_⟩
 · obtain⟨a,cap',e1,h2,h3,h4⟩:=hr
   refine⟨a,cap',e1,h2,h3,λi x hx => ?_⟩
   obtain⟨b',off',hb',hc'⟩:=h4 i x hx
   refine⟨b',off',hb',λj u hu => ?_⟩
   subst hb'
   simp only[Value.slice.injEq,Option.some.injEq,Addr.mk.injEq,and_true]at e1
   obtain⟨⟨rfl,rfl⟩,-⟩:=e1
   rw[← hc' j u hu]
   exact World.cell?_of_block hbk
 · rw[World.cell?_of_block (w:=w) (w':=w') (a:=⟨b,off+j,none⟩) hbk];exact hs j hj
 · rw[Ku hbk];exact hz j
theorem vO.one {w:World} {base b:Nat} {x:α} {cs:Array Value} {ty:TypeId} (hf:∀ x,(f x).length=n) (h:w.heap[b]? = some (.cells cs ty (0,0))) (hx:cs.toList=f x) (hb:base<=b):vO n f w base (.slice (some ⟨b,0,none⟩) 1 1) [x]:=by
 have hr:=ay.dF (l:=[x]) hf h (by simpa[flat]using hx) (by simp)
 refine⟨hr,b,0,1,rfl,⟨hb,lt_of_block h⟩,Nat.le_refl _,λj hj => ?_,λj => ?_⟩
 · have hl:cs.size=n:=by rw[← hf x,← hx,Array.length_toList]
   have:j<cs.size:=by omega
   simp[World.cell?,h,this]
 · simp[World.frozen?,h]
theorem vO.pop {w:World} {base b off cap:Nat} {x:α} {l:List α} (h:vO n f w base (.slice (some ⟨b,off,none⟩) (l.length+1) cap) (x :: l)):vO n f w base (.slice (some (if cap=1 then⟨b,off,none⟩else⟨b,off+n,none⟩)) l.length (cap - 1)) l:=by
 obtain⟨hr,b',off',cap',e1,⟨hb,hl⟩,hc,hs,hz⟩:=h
 simp only[Value.slice.injEq,Option.some.injEq,Addr.mk.injEq,and_true,List.length_cons,true_and]at e1
 obtain⟨⟨rfl,rfl⟩,rfl⟩:=e1
 rw[List.length_cons]at hc
 by_cases h1:cap=1
 · subst h1
   obtain rfl:l=[]:=List.eq_nil_of_length_eq_zero (by omega)
   simp only[if_true]
   exact⟨⟨_,_,rfl,by simp,by simp,λi y hy=>by simp at hy⟩,b,off,0,rfl,⟨hb,hl⟩,by simp,λj hj=>by omega,hz⟩
 · simp only[if_neg h1]
   obtain⟨a,cap',e1,h2,h3,h4⟩:=hr
   simp only[Value.slice.injEq,List.length_cons,true_and]at e1
   obtain⟨rfl,rfl⟩:=e1
   rw[List.length_cons]at h3
   refine⟨⟨_,_,rfl,by omega,by omega,λi y hy => ?_⟩,b,off+n,cap - 1,rfl,⟨hb,hl⟩,by omega,λj hj => ?_,hz⟩
   · obtain⟨b',off',hb',hc'⟩:=h4 (i+1) y (by simpa using hy)
     simp only[Option.some.injEq,Addr.mk.injEq,and_true]at hb'
     obtain⟨rfl,rfl⟩:=hb'
     refine⟨b,off+n,rfl,λj u hu => ?_⟩
     have:=hc' j u hu
     rwa[show off+(i+1) * n+j=off+n+i * n+j by rw[Nat.add_mul];omega]at this
   · have h5:n+j<cap * n:=by
      have:cap * n=(cap - 1) * n+n:=by
       conv=>lhs;rw[show cap=cap - 1+1 by omega,Nat.add_mul]
       omega
      omega
     have:=hs (n+j) h5
     rwa[← Nat.add_assoc]at this
end
def lL (w:World) (bb:Nat) (ty:TypeId) (B:List Bool):Prop:=w.heap[bb]? = some (.cells (B.map Value.bool).toArray ty (0,0))
theorem lL.keep {w w':World} {bb:Nat} {ty:TypeId} {B:List Bool} (h:lL w bb ty B) (hw:w'.heap[bb]? = w.heap[bb]?):lL w' bb ty B:=by unfold lL;rw[hw];exact h
theorem lL.cell {w:World} {bb:Nat} {ty:TypeId} {B:List Bool} (h:lL w bb ty B) {j:Nat} (hj:j<B.length):w.cell? ⟨bb,j,none⟩=some (.bool B[j]):=by
 unfold lL at h
 simp[World.cell?,h,hj]
theorem lL.thaw {w:World} {bb:Nat} {ty:TypeId} {B:List Bool} (h:lL w bb ty B) (j:Nat):w.frozen? ⟨bb,j,none⟩=false:=by
 unfold lL at h
 simp[World.frozen?,h]
theorem lL.set {w:World} {bb:Nat} {ty:TypeId} {B:List Bool} (h:lL w bb ty B) (j:Nat) (v:Bool):lL (w.setCell ⟨bb,j,none⟩ (.bool v)) bb ty (B.set j v):=by
 unfold lL at h ⊢
 have:=block_setCell (p:=⟨bb,j,none⟩) h rfl (.bool v)
 rw[this]
 simp[List.map_set]
section
variable {P:Program} {t e:TypeId} {n bytes:Nat} {α:Type} {f:α->List Value}
theorem ay.MR {w:World} {b cap:Nat} {cs:Array Value} {ty:TypeId} {fr:Nat × Nat} {l:List α} (hf:∀ x,(f x).length=n) (h:w.heap[b]? = some (.cells cs ty fr)) (hl:∀ (j:Nat) (u:Value),(flat f l)[j]? = some u->cs[j]? = some u) (hc:l.length<=cap) (hn:l.length<=9223372036854775807):ay n f w (.slice (some ⟨b,0,none⟩) l.length cap) l:=by
 refine⟨_,_,rfl,hc,hn,λi x hx=>⟨b,0,rfl,λj u hu => ?_⟩⟩
 obtain⟨hi,rfl⟩:=List.getElem?_eq_some_iff.1 hx
 have hj:j<n:=by rw[← hf l[i]];exact(List.getElem?_eq_some_iff.1 hu).1
 have h6:=BC f n hf l i j hi hj
 rw[hu]at h6
 simp only[World.cell?,h,Nat.zero_add]
 exact hl _ _ h6
theorem Vi (E:Elem P t e n bytes) (hf:∀ x,(f x).length=n) (s:Value) (l:List α) (g:Nat) (w:World) (hg:w.heap[g]? = some (.cells #[] e (0,0))) (hs:ay n f w s l) (hlen:l.length * bytes<=140737488355328) :
 ∃ v' w2,(nJ P t t (.slice (some ⟨g,0,none⟩) 0 0) s w/\lW P t t (.slice (some ⟨g,0,none⟩) 0 0) s w=v'/\appW P t t (.slice (some ⟨g,0,none⟩) 0 0) s w=w2) /\
  (ay n f w2 v' l/\∀ x,v'.ownBlock=some x->(x=g\/w.heap.size<=x)/\x<w2.heap.size)/\Grow w w2:=by
 obtain⟨i,z,hi,hz,hsz,hby,hzc⟩:=E.hi
 obtain⟨sa,sc,rfl,hsc,hsl,hcell⟩:=hs
 cases sa with
 |none =>
  obtain rfl:l=[]:=by
   cases l with
   |nil=>rfl
   |cons x l=>obtain⟨b,off,e,_⟩:=hcell 0 x rfl;cases e
  have hr:=run_append_nothing w t t e i E.ht hi (some ⟨g,0,none⟩) 0 0 sc (Nat.le_refl _)
  obtain⟨hok,hv,hw⟩:=zP hr
  exact⟨_,_,⟨hok,hv,hw⟩,⟨⟨_,0,rfl,by simp,by simp,λi x hx=>by simp at hx⟩,λx hx=>by
   simp[Value.ownBlock]at hx
   subst hx
   exact⟨.inl rfl,lt_of_block hg⟩⟩,Mv.refl _ _⟩
 |some a =>
  have hnews:∀ j u,(flat f l)[j]? = some u->w.cell? (a.add j)=some u:=λj u hu=>by
   obtain⟨i',r,rfl,hi',hu⟩:=flat_get _ n E.hn hf l j u hu
   obtain⟨b,off,e1,hc⟩:=hcell i' _ (List.getElem?_eq_getElem hi')
   simp only[Option.some.injEq]at e1
   subst e1
   have:=hc r u hu
   rw[GQ,← Nat.add_assoc];exact this
  rcases Nat.eq_zero_or_pos l.length with h0|h0
  · obtain rfl:l=[]:=List.eq_nil_of_length_eq_zero h0
    have hr2:=run_append_room (P:=P) w t t e i E.ht hi g 0 0 #[] hg a 0 sc [] (by simp) (by simp) (by simp) (Nat.le_refl _) (by simp)
    obtain⟨hok,hv,hw⟩:=zP hr2
    refine⟨_,_,⟨hok,hv,hw⟩,⟨⟨_,0,rfl,by simp,by simp,λi x hx=>by simp at hx⟩,λx hx=>by
     simp[Value.ownBlock]at hx
     subst hx
     exact⟨.inl rfl,by simpa using lt_of_block hg⟩⟩,?_⟩
    have hrow:=setRow_heap w g #[] ([]:List Value).toArray _ _ hg
    refine⟨rfl,rfl,rfl,by simp,λk hk _ => ?_⟩
    by_cases hkg:k=g
    · subst hkg;rw[hg];simpa using hrow
    · exact setRow_other w g k _ hkg
  · have hr2:=run_append_grow (P:=P) w t t e i _ E.ht hi hz ⟨g,0,none⟩ 0 0 [] (by simp) (by simp) a l.length sc (flat f l) (by rw[hsz];exact oN _ n hf l) hnews (by omega) (by omega) (growslice_fits (by omega) (by rw[hby];simpa using hlen))
    obtain⟨hok,hv,hw⟩:=zP hr2
    have hge:=grownCap_ge w (0+l.length) 0 e
    have hB:=heap_alloc_new w.drew (.cells (([]:List Value).toArray ++ (flat f l).toArray ++ Builtin.zeroCells z.cells (grownCap w (0+l.length) 0 e - (0+l.length))) e)
    have hds:w.drew.heap.size=w.heap.size:=rfl
    rw[hds]at hB
    rw[Nat.zero_add]at hv hB hge
    have hrw:=ay.MR (l:=l) (cap:=grownCap w l.length 0 e) hf hB (λj u hu=>by
     have hj:=(List.getElem?_eq_some_iff.1 hu).1
     rw[Array.getElem?_append_left (by simpa using hj)]
     simpa using hu) hge hsl
    rw[Nat.zero_add]at hw
    exact⟨_,_,⟨hok,hv,hw⟩,⟨hrw,λx hx=>by
     simp[Value.ownBlock]at hx
     subst hx
     exact⟨.inr (Nat.le_refl _),by simp⟩⟩,((Mv.refl _ w).drew).alloc _⟩
end
theorem ah {w w':World} {b:Nat} {x:Obj} (h:w.heap[b]? = some x) (hm:Grow w w'):w'.heap[b]? = some x:=by rw[hm.block b (lt_of_block h) (λe=>e)];exact h
def Yh {α:Type} (n:Nat) (f:α->List Value) (w:World) (l:List α) (e:Ending) (w':World):Prop :=
 ∃ v',e = .returned v'/\ay n f w' v' l/\(∀ g,v'.ownBlock=some g->w.heap.size<=g/\g<w'.heap.size)/\Grow w w'
theorem a2 (w : World) (A B : Obj) : RowKit.Hid (((w.alloc A).alloc B).heap[w.heap.size]? = some A) /\ RowKit.Hid (((w.alloc A).alloc B).heap[w.heap.size + 1]? = some B) /\ RowKit.Hid (Grow w ((w.alloc A).alloc B)) := ⟨ł (bS (heap_alloc_new w _) _), ł (by have := heap_alloc_new (w.alloc A) B; rwa[World.size_alloc]at this), ł (((Mv.refl _ w).alloc _).alloc _)⟩
inductive Tree where
 |mk (kind num:Int) (name:ByteArray) (kids:List Tree)
namespace Tree
def kind:Tree->Int | .mk k _ _ _=>k
def num:Tree->Int | .mk _ n _ _=>n
def name:Tree->ByteArray | .mk _ _ s _=>s
def kids:Tree->List Tree | .mk _ _ _ l=>l
end Tree
def dO (n:Int) (s:ByteArray):Bool:=n == 0 && s.size == 0
def ed (n:Int) (s:ByteArray):Bool:=n == 0 && jV s
mutual
def aJ:Tree->Bool
 |.mk k n s l =>
  if k=1 then decide (0<=n) && (s.size == 0 && l.isEmpty)
  else if k=2\/k=4\/k=5 then ed n s && l.isEmpty
  else if k=3 then ed n s && (l.length == 1 && kS l)
  else if k=6\/k=7 then dO n s && (l.length == 1 && kS l)
  else if 8<=k/\k<=23 then dO n s && (l.length == 2 && kS l)
  else false
def kS:List Tree->Bool
 | []=>true
 |t :: l=>aJ t && kS l
end
def fH (t:Tree):Bool:=(t.kind == 2 || t.kind == 3) && aJ t
def lM (t:Tree):Bool:=t.kind == 2 && aJ t
def aY (ps:List (Tree->Bool)) (l:List Tree):Bool:=match ps,l with
 | [],[]=>true
 |p :: ps,t :: l=>p t && aY ps l
 |_,_=>false
mutual
def aW:Tree->Bool
 |.mk k n s l =>
  if k=40\/k=41\/k=42\/k=56 then dO n s && aY [fH,aJ] l
  else if k=43 then dO n s && aY [fH,fH] l
  else if k=44\/k=45 then ed n s && aY [fH] l
  else if k=46\/k=47\/k=48\/k=49 then dO n s && aY [fH] l
  else if k=50\/k=51 then ed n s && (decide (l.length<=8) && l.all lM)
  else if k=52\/k=53 then dO n s && (aY [aJ,λ_=>true,λ_=>true,aJ] l && ((kX l).getD 1 false && (kX l).getD 2 false))
  else if k=54 then ed n s && (aY [aJ,λ_=>true,aJ] l && (kX l).getD 1 false)
  else if k=55 then ed n s && (l.length == 1 && (kX l).getD 0 false)
  else false
def dM:Tree->Bool
 |.mk k n s l=>k == 57 && (dO n s && BD l)
def kX:List Tree->List Bool
 | []=>[]
 |t :: l=>dM t :: kX l
def BD:List Tree->Bool
 | []=>true
 |t :: l=>aW t && BD l
end
mutual
def bL:Tree->Nat
 |.mk _ _ _ l=>1+eX l
def eX:List Tree->Nat
 | []=>0
 |t :: l=>bL t+eX l
end
mutual
def Nw:Tree->Nat
 |.mk _ _ _ l=>MS l+1
def MS:List Tree->Nat
 | []=>0
 |t :: l=>max (Nw t) (MS l)
end
theorem G9 (l:List Tree):kX l=l.map dM:=by
 induction l with
 |nil=>rw[kX];rfl
 |cons t l ih=>rw[kX,ih];rfl
theorem Gm (l:List Tree):BD l=l.all aW:=by
 induction l with
 |nil=>rw[BD];rfl
 |cons t l ih=>rw[BD,ih];rfl
theorem Ur (l:List Tree):kS l=l.all aJ:=by
 induction l with
 |nil=>rw[kS];rfl
 |cons t l ih=>rw[kS,ih];rfl
inductive ae where
 |mk (kind num:Int) (name:ByteArray) (kv:Value) (kids:List ae)
def ae.cells:ae->List Value
 |.mk k n s kv _=>[.int .u8 k,.int .i64 n,.string s,kv]
def ae.kids:ae->List ae
 |.mk _ _ _ _ l=>l
def ae.val:ae->Value
 |.mk k n s kv _ => .agg #[.int .u8 k,.int .i64 n,.string s,kv]
mutual
def ae.t:ae->Tree
 |.mk k n s _ l => .mk k n s (ae.ts l)
def ae.ts:List ae->List Tree
 | []=>[]
 |x :: l=>x.t :: ae.ts l
end
theorem ae.jv (l:List ae):ae.ts l=l.map ae.t:=by
 induction l with
 |nil=>rw[ae.ts];rfl
 |cons t l ih=>rw[ae.ts,ih];rfl
theorem ae.bX (l:List ae):(ae.ts l).length=l.length:=by rw[ae.jv,List.length_map]
theorem ae.jw (l:List ae) (i:Nat) (h:i<l.length):(ae.ts l)[i]'(by rw[ae.bX];exact h)=l[i].t:=by simp[ae.jv]
inductive bD (w:World):ae->Prop
 |mk {k n:Int} {s:ByteArray} {kv:Value} {kids:List ae} (hk:0<=k/\k<=255) (hn:In64 n) (hs:s.size<=9223372036854775807) (row:ay 4 ae.cells w kv kids) (each:∀ x∈kids,bD w x):bD w (.mk k n s kv kids)
theorem bD.later {w w':World} {x:ae} (h:bD w x) (hm:Grow w w'):bD w' x:=by
 induction h with
 |mk hk hn hs row _ ih=>exact .mk hk hn hs (row.later hm) ih
theorem bD.row {w:World} {k n:Int} {s:ByteArray} {kv:Value} {kids:List ae} (h:bD w (.mk k n s kv kids)):(0<=k/\k<=255)/\In64 n/\s.size<=9223372036854775807/\ay 4 ae.cells w kv kids/\∀ x∈kids,bD w x:=by
 cases h with
 |mk hk hn hs row each=>exact⟨hk,hn,hs,row,each⟩
def eP (w:World) (b:Bool) (e:Ending) (w':World):Prop:=e = .returned (.bool b)/\Grow w w'
end Go.Proofs.YtbpodipdfohikaaGreat
