import Derived.Test.YtbpodipdfohikaaGreatK12
import Derived.Test.YtbpodipdfohikaaGreatK11
import Derived.Laws.StructEq
set_option linter.unusedSimpArgs false
set_option linter.unusedVariables false
set_option maxRecDepth 100000
set_option maxHeartbeats 25600000
namespace Go.Proofs.YtbpodipdfohikaaGreat
open Go.RowKit
section
variable {P:Program} {Q:Exit->Act->World->Prop}
def Qs (P:Program) (Q:Exit->Act->World->Prop) (ops:Array Oper) (suf:List Oper):Exit->Act->World->Prop
 |.normal,a,w=>wpList P ops Q suf a w
 |e,a,w=>Q e a w
theorem Uy {ops:Array Oper} {suf:List Oper} (h:LetsOut (Qs P Q ops suf)):LetsOut Q:=h
theorem Oper.YZ {ops:Array Oper} {suf:List Oper} {o:Oper} {a:Act} {w:World} {K:Act->World->Prop} (h:o.wp P a w K (Qs P Q ops suf)):o.wp P a w K Q:=by
 unfold Oper.wp at *
 generalize (execOp a.eval o).run P w=r at *
 cases r with
 |ok n w' =>
  cases n <;> simp only[Oper.upon]at h ⊢ <;>
   first
    |exact h
    |exact Calls.mono h (λe w'' he=>by cases e <;> exact he)
 |halt x w'=>cases x <;> simp only[Oper.upon]at h ⊢ <;> exact h
def Bv (l:List Oper):Bool:=l.all λo=>o.guard.isNone
theorem KG {l:List Oper} (h:Bv l=true) {i:Nat} {o:Oper} (ho:l[i]? = some o):o.guard=none:=by
 have:=List.all_eq_true.1 h o (List.mem_of_getElem? ho)
 simpa using this
theorem Gn {ops:Array Oper} {i:Nat} {o:Oper} {K:Act->World->Prop} {a:Act} {w:World} (ho:ops[i]? = some o) (hg:o.guard=none):wpOp P ops Q i K a w↔(o.wp P a w K Q\/(o.asks P a w/\LetsOut Q)):=by
 unfold wpOp
 rw[ho]
 have hw:Region.wanted o (yielded ops a.tmps)=true:=by simp[Region.wanted,hg]
 simp only[hw,if_true]
def wY (ws:List (List Nat)) (m n:Nat):Bool:=((List.range n).all λi=>(ws.getD i []).all λj=>decide (j<i)) && ((List.range n).all λi=>decide (i<m) || Om ws i (List.range i))
theorem KX {ws:List (List Nat)} {e:Nat} {L:Array Bool} (h:Om ws e (List.range e)=true) (hcl:kT ws L) (hw:∀ j∈ws.getD e [],L.getD j false=true):∀ i,i<e->L.getD i false=true:=by
 have key:∀ n i,e - i<=n->i<e->L.getD i false=true:=by
  intro n
  induction n with
  |zero=>intro i hn hi;omega
  |succ n ih =>
   intro i hn hi
   have h2:=List.all_eq_true.1 h i (List.mem_range.2 hi)
   simp only[Bool.and_eq_true,decide_eq_true_eq,Bool.or_eq_true,List.any_eq_true,List.contains_iff_mem]at h2
   obtain⟨h3,h4|⟨m,hm,h5,h6⟩⟩:=h2
   · exact hw i h4
   · exact hcl m (ih m (by omega) (List.mem_range.1 hm)) i h6
 exact λi hi=>key _ i (Nat.le_refl _) hi
theorem El {ops:Array Oper} {i:Nat} {o:Oper} (ho:ops[i]? = some o):(bK ops).getD i []=(o.after.toList.filter (Region.binds .any)).map (·.on):=by
 simp[bK,List.getD,ho]
theorem rZ {ops:Array Oper} {L:Array Bool} {i:Nat} (hs:L.size=ops.size):i∈Region.ready .any ops L↔i<ops.size/\L.getD i false=false/\∀ j∈(bK ops).getD i [],L.getD j false=true:=by
 rw[mem_ready]
 constructor
 · rintro⟨h1,o,ho,h2⟩
   have hi:i<ops.size:=(Array.getElem?_eq_some_iff.1 ho).1
   refine⟨hi,?_,λj hj => ?_⟩
   · simp only[Array.getD,hs,hi,dite_true]at h1 ⊢;exact h1
   · rw[El ho]at hj
     obtain⟨e,he,rfl⟩:=List.mem_map.1 hj
     obtain⟨he1,he2⟩:=List.mem_filter.1 he
     exact h2 e (by simpa using he1) he2
 · rintro⟨hi,h1,h2⟩
   refine⟨by simp only[Array.getD,hs,hi,dite_true]at h1 ⊢;exact h1,ops[i],by simp[hi],λe he hb=>h2 e.on ?_⟩
   rw[El (o:=ops[i]) (by simp[hi])]
   exact List.mem_map.2 ⟨e,List.mem_filter.2 ⟨by simpa using he,hb⟩,rfl⟩
theorem Uz {ws:List (List Nat)} {L:Array Bool} {i:Nat} (h:kT ws L) (hw:∀ j∈ws.getD i [],L.getD j false=true):kT ws (L.setIfInBounds i true):=λj hj k hk=>by
 by_cases e:k=i
 · subst e
   by_cases hl:k<L.size
   · simp[Array.getD,hl]
   · have:L.setIfInBounds k true=L:=Array.setIfInBounds_eq_of_size_le (by omega)
     rw[this]at hj ⊢;exact h j hj k hk
 · rw[getD_set_ne false (λx=>e x.symm)]
   by_cases e2:j=i
   · subst e2;exact hw k hk
   · rw[getD_set_ne false (λx=>e2 x.symm)]at hj;exact h j hj k hk
theorem TA {l:List Oper} {m:Nat} (hsp:wY (bK l.toArray) m l.length=true) (hg:Bv l=true):∀ (r:List Oper) (p f:Nat) (L:Array Bool) (a:Act) (x:World),p+r.length=l.length->m<=p->l.drop p=r->r.length<=f->L.size=l.length->(∀ j,j<l.length->L.getD j false=decide (j<p))->wpList P l.toArray Q r a x->wpAny P .any l.toArray Q f L a x:=by
 simp only[wY,Bool.and_eq_true]at hsp
 obtain⟨hlt,hbe⟩:=hsp
 intro r
 induction r with
 |nil =>
  intro p f L a x hp hm hd hf hL hl h
  have hr:Region.ready .any l.toArray L=[]:=List.eq_nil_iff_forall_not_mem.2 λi hi=>by
   obtain⟨h1,h2,-⟩:=(rZ (by simpa using hL)).1 hi
   simp only[List.size_toArray]at h1
   rw[hl i h1]at h2
   simp at hp h2;omega
  cases f with
  |zero=>exact⟨hr,h⟩
  |succ f=>exact⟨λ_=>h,λi hi=>by rw[hr]at hi;cases hi⟩
 |cons o r ih =>
  intro p f L a x hp hm hd hf hL hl h
  simp only[List.length_cons]at hp hf
  obtain⟨f,rfl⟩:∃ f',f=f'+1:=⟨f - 1,by omega⟩
  have hpl:p<l.length:=by omega
  have hop:l[p]? = some o:=by
   have:=congrArg List.head? hd
   rw[List.head?_drop]at this;simpa using this
  have hgo:=KG hg hop
  have hcl:kT (bK l.toArray) L:=λj hj k hk=>by
   have hjl:j<l.length:=by
    rcases Nat.lt_or_ge j l.length with h|h
    · exact h
    · simp[Array.getD,hL,Nat.not_lt.2 h]at hj
   have h1:=List.all_eq_true.1 (List.all_eq_true.1 hlt j (List.mem_range.2 hjl)) k hk
   simp only[decide_eq_true_eq]at h1
   rw[hl j hjl]at hj
   rw[hl k (by omega)]
   simp at hj ⊢;omega
  have mY:p∈Region.ready .any l.toArray L:=(rZ (by simpa using hL)).2 ⟨by simpa using hpl,by rw[hl p hpl];simp,λj hj=>by
   have h1:=List.all_eq_true.1 (List.all_eq_true.1 hlt p (List.mem_range.2 hpl)) j hj
   simp only[decide_eq_true_eq]at h1
   rw[hl j (by omega)];simpa using h1⟩
  refine⟨λhe=>(by rw[he]at mY;cases mY),λi hi => ?_⟩
  have hie:i=p:=by
   obtain⟨h1,h2,h3⟩:=(rZ (by simpa using hL)).1 hi
   simp only[List.size_toArray]at h1
   rw[hl i h1]at h2
   simp only[decide_eq_false_iff_not]at h2
   rcases Nat.lt_or_ge p i with h4|h4
   · exfalso
     have h5:=List.all_eq_true.1 hbe i (List.mem_range.2 h1)
     simp only[Bool.or_eq_true,decide_eq_true_eq]at h5
     rcases h5 with h5|h5
     · omega
     · have:=KX h5 hcl h3 p h4
       rw[hl p hpl]at this;simp at this
   · omega
  subst hie
  rw[Gn (by simpa using hop) hgo]
  have h':=h
  rw[wpList]at h'
  have hw:Region.wanted o (yielded l.toArray a.tmps)=true:=by simp[Region.wanted,hgo]
  simp only[hw,if_true]at h'
  rcases h' with h' | h'
  · refine .inl (Oper.wp_mono (λa' w' hK => ?_) h')
    refine ih (i+1) f _ a' w' (by omega) (by omega) ?_ (by omega) (by simpa using hL) (λj hj => ?_) hK
    · have:=congrArg List.tail hd
      simpa[List.tail_drop]using this
    · by_cases e:j=i
      · subst e;simp[Array.getD,hL,hj]
      · rw[getD_set_ne false (λx=>e x.symm),hl j hj]
        by_cases h6:j<i
        · simp[h6];omega
        · simp[h6];omega
  · exact .inr h'
theorem KH {pre suf:List Oper} {a:Act} {w:World} (hsp:wY (bK (pre ++ suf).toArray) pre.length (pre ++ suf).length=true) (hg:Bv (pre ++ suf)=true)
 (h:wpAny P .any pre.toArray (Qs P Q (pre ++ suf).toArray suf) pre.toArray.size (Array.replicate pre.toArray.size false) a w):wpAny P .any (pre ++ suf).toArray Q (pre ++ suf).toArray.size (Array.replicate (pre ++ suf).toArray.size false) a w:=by
 have Oo:=hsp
 simp only[wY,Bool.and_eq_true]at Oo
 obtain⟨hlt,hbe⟩:=Oo
 have hln:(pre ++ suf).length=pre.length+suf.length:=List.length_append
 have hge:∀ i,i<pre.length->(pre ++ suf)[i]? = pre[i]? := λi hi=>List.getElem?_append_left hi
 have Jk:∀ i,i<pre.length->(bK (pre ++ suf).toArray).getD i []=(bK pre.toArray).getD i []:=λi hi=>by
  have h1:pre[i]? = some pre[i]:=List.getElem?_eq_getElem hi
  rw[El (o:=pre[i]) (by simpa using(hge i hi).trans h1),El (o:=pre[i]) (by simp)]
 have key:∀ (fuel:Nat) (La L:Array Bool) (a:Act) (x:World),La.size=pre.length->L.size=(pre ++ suf).length->(∀ j,j<pre.length->La.getD j false=L.getD j false)->(∀ j,pre.length<=j->L.getD j false=false)->kT (bK (pre ++ suf).toArray) L ->
  wpAny P .any pre.toArray (Qs P Q (pre ++ suf).toArray suf) fuel La a x->wpAny P .any (pre ++ suf).toArray Q (fuel+suf.length) L a x:=by
  intro fuel
  have hmin:∀ (La L:Array Bool),La.size=pre.length->L.size=(pre ++ suf).length->(∀ j,j<pre.length->La.getD j false=L.getD j false)->(∃ j,j<pre.length/\L.getD j false=false)->∃ i,i∈Region.ready .any pre.toArray La:=by
   intro La L h1 h2 h3 hj
   obtain⟨j,hj⟩:=hj
   have:∀ n j,j<n->j<pre.length->L.getD j false=false->∃ i,i∈Region.ready .any pre.toArray La:=by
    intro n
    induction n with
    |zero=>intro j hn;omega
    |succ n ih =>
     intro j hn hj hf
     by_cases hall:∀ k,k<j->L.getD k false=true
     · refine⟨j,(rZ (by simpa using h1)).2 ⟨by simpa using hj,by rw[h3 j hj];exact hf,λk hk => ?_⟩⟩
       rw[← Jk j hj]at hk
       have h4:=List.all_eq_true.1 (List.all_eq_true.1 hlt j (List.mem_range.2 (by omega))) k hk
       simp only[decide_eq_true_eq]at h4
       rw[h3 k (by omega)];exact hall k h4
     · simp only[Classical.not_forall]at hall
       obtain⟨k,hk,iO⟩:=hall
       exact ih k (by omega) (by omega) (by simpa using iO)
   exact this (j+1) j (by omega) hj.1 hj.2
  have hdone:∀ (f:Nat) (L:Array Bool) (a:Act) (x:World),suf.length<=f->L.size=(pre ++ suf).length->(∀ j,j<pre.length->L.getD j false=true)->(∀ j,pre.length<=j->L.getD j false=false)->wpList P (pre ++ suf).toArray Q suf a x->wpAny P .any (pre ++ suf).toArray Q f L a x:=λf L a x hf hL h1 h2 h=>by
   refine TA hsp hg suf pre.length f L a x hln.symm (Nat.le_refl _) (by simp) hf hL (λj hj => ?_) h
   rcases Nat.lt_or_ge j pre.length with h3|h3
   · rw[h1 j h3];simp[h3]
   · rw[h2 j h3];simp;omega
  induction fuel with
  |zero =>
   intro La L a x uh hL he hz hcl h
   refine hdone _ L a x (by omega) hL (λj hj => ?_) hz h.2
   cases hv:L.getD j false with
   |true=>rfl
   |false =>
    obtain⟨i,hi⟩:=hmin La L uh hL he ⟨j,hj,hv⟩
    rw[h.1]at hi;cases hi
  |succ fuel ih =>
   intro La L a x uh hL he hz hcl h
   by_cases hall:∀ j,j<pre.length->L.getD j false=true
   · refine hdone _ L a x (by omega) hL hall hz (h.1 (List.eq_nil_iff_forall_not_mem.2 λi hi => ?_))
     obtain⟨h1,h2,-⟩:=(rZ (by simpa using uh)).1 hi
     simp only[List.size_toArray]at h1
     rw[he i h1,hall i h1]at h2;cases h2
   · simp only[Classical.not_forall]at hall
     obtain⟨j,hj,Ff⟩:=hall
     have Ff:L.getD j false=false:=by simpa using Ff
     rw[show fuel+1+suf.length=(fuel+suf.length)+1 by omega]
     refine⟨λhr => ?_,λi hi => ?_⟩
     · exfalso
       obtain⟨i,hi⟩:=hmin La L uh hL he ⟨j,hj,Ff⟩
       obtain⟨h1,h2,h3⟩:=(rZ (by simpa using uh)).1 hi
       simp only[List.size_toArray]at h1
       have:i∈Region.ready .any (pre ++ suf).toArray L:=(rZ (by simpa using hL)).2 ⟨by simp;omega,by rw[← he i h1];exact h2,λk hk=>by
        rw[Jk i h1]at hk
        have h4:=h3 k hk
        rcases Nat.lt_or_ge k pre.length with h5|h5
        · rw[← he k h5];exact h4
        · simp[Array.getD,uh,Nat.not_lt.2 h5]at h4⟩
       rw[hr]at this;cases this
     · obtain⟨h1,h2,h3⟩:=(rZ (by simpa using hL)).1 hi
       simp only[List.size_toArray]at h1
       have him:i<pre.length:=by
        rcases Nat.lt_or_ge i pre.length with h4|h4
        · exact h4
        · exfalso
          have h5:=List.all_eq_true.1 hbe i (List.mem_range.2 h1)
          simp only[Bool.or_eq_true,decide_eq_true_eq]at h5
          rcases h5 with h5|h5
          · omega
          · have:=KX h5 hcl h3 j (by omega)
            rw[Ff]at this;cases this
       have hir:i∈Region.ready .any pre.toArray La:=(rZ (by simpa using uh)).2 ⟨by simpa using him,by rw[he i him];exact h2,λk hk=>by
        rw[← Jk i him]at hk
        have h4:=List.all_eq_true.1 (List.all_eq_true.1 hlt i (List.mem_range.2 h1)) k hk
        simp only[decide_eq_true_eq]at h4
        rw[he k (by omega)];exact h3 k hk⟩
       have hp:=h.2 i hir
       have hpo:pre[i]? = some pre[i]:=List.getElem?_eq_getElem him
       have hlo:(pre ++ suf)[i]? = some pre[i]:=(hge i him).trans hpo
       have hgo:=KG hg hlo
       rw[Gn (o:=pre[i]) (by simp) hgo]at hp
       rw[Gn (by simpa using hlo) hgo]
       rcases hp with hp|⟨hp1,hp2⟩
       · refine .inl (Oper.wp_mono (λa' w' hK => ?_) (Oper.YZ hp))
         refine ih (La.setIfInBounds i true) (L.setIfInBounds i true) a' w' (by simpa using uh) (by simpa using hL) (λk hk => ?_) (λk hk => ?_) (Uz hcl h3) hK
         · by_cases e:k=i
           · subst e;simp[Array.getD,uh,hL,hk];omega
           · rw[getD_set_ne false (λx=>e x.symm),getD_set_ne false (λx=>e x.symm)];exact he k hk
         · rw[getD_set_ne false (by omega)];exact hz k hk
       · exact .inr ⟨hp1,Uy hp2⟩
 have hf:∀ n j,(Array.replicate n false).getD j false=false:=by
  intro n j
  by_cases hj:j<n <;> simp[Array.getD,hj]
 have:=key pre.toArray.size (Array.replicate pre.toArray.size false) (Array.replicate (pre ++ suf).toArray.size false) a w (by simp) (by simp) (λj _=>by rw[hf,hf]) (λj _=>hf _ j) (λj hj=>by rw[hf]at hj;cases hj) h
 rw[show(pre ++ suf).toArray.size=pre.toArray.size+suf.length by simp]at this ⊢
 exact this
theorem kK {id:Nat} {a:Act} {w:World} {l:List Oper} (m:Nat) (N:Nat) (ds:List (Option Tmp)) (ns:List (List Nat)) (T:List Nat) (Ss:List Sp) (iJ:AS ((Ss.map Sp.k).filterMap Kd.zero) T 0 Ss) (hR0:∀ i R iv z t,(Ss.map Sp.k).getD i .op = .rs R iv z t->R<w.drew.heap.size/\w.drew.heap[R]? = some (.cells z t (0,0)))
 (hstep:iX (lT P ds (bK (l.take m).toArray) ns T Ss w.drew a) 0 (l.take m))
 (hend:∀ (vs:Nat->Value) (x:World),GE T Ss w.drew vs x->wpList P l.toArray Q (l.drop m) (aK ds (λj=>sv (Ss.getD j .n) (vs j)) (rg 0 ds) a) x)
 (hm:P.follows .mixedOrders=true:=by kernel_rfl) (hN:a.tmps.size=N:=by rfl) (hok:fI N (l.take m).toArray ds (bK (l.take m).toArray) ns []=true:=by kernel_rfl) (hkd:tH (bK (l.take m).toArray) (jF T Ss.length) (Ss.map Sp.k)=true:=by kernel_rfl) (hlen:(Ss.map Sp.k).length=(l.take m).length:=by rfl) (hr:rg 0 ds=List.range (l.take m).length:=by rfl) (hc:mi T Ss=true:=by kernel_rfl)
 (hsp:wY (bK l.toArray) m l.length=true:=by kernel_rfl) (hg:Bv l=true:=by kernel_rfl) (jE:(l.take m).length=m:=by rfl):(Code.region id l.toArray true).wp P Q a w:=by
 refine wp_region_any hm ?_
 have hl:l.take m ++ l.drop m=l:=List.take_append_drop m l
 have h1:=KH (P:=P) (Q:=Q) (pre:=l.take m) (suf:=l.drop m) (a:=a) (w:=w.drew) (by rw[hl,jE];exact hsp) (by rw[hl];exact hg) (by
  refine DY N ds (bK (l.take m).toArray) ns (jF T Ss.length) (Ss.map Sp.k) (Ss.map Sp.P) hN hok hkd hlen (pW Ss) (by have:=iJ.all;rwa[← List.range_eq_range']at this) hR0 (zw (λ_ _ h=>h.s) _ _ hstep) λvs x h => ?_
  have h1:=GE.of h hc
  have h2:=hend vs x h1
  rw[hl]
  rwa[hr,uP _ _ λj _=>h1.c j]at h2)
 rw[hl]at h1
 exact h1
end
def gK:List au->ByteArray->Option au
 | [],_=>none
 |v :: l,n=>match gK l n with
  |some x=>some x
  |none=>if v.name == n then some v else none
theorem Gi (l:List au) (n:ByteArray) (h:∀ j (hj:j<l.length),(l[j].name == n)=false):gK l n=none:=by
 induction l with
 |nil=>rfl
 |cons v l ih =>
  have h1:=ih (λj hj=>h (j+1) (by simpa using hj))
  have h2:=h 0 (by simp)
  rw[gK,h1]
  simp only[List.getElem_cons_zero]at h2
  simp[h2]
theorem Gp (n:ByteArray):∀ (l:List au) (i:Nat) (hi:i<l.length),(l[i].name == n)=true->(∀ j (hj:j<l.length),i<j->(l[j].name == n)=false)->gK l n=some l[i]
 | [],i,hi,_,_=>by simp at hi
 |v :: l,0,_,h,hn=>by
  rw[gK,Gi l n (λj hj=>hn (j+1) (by simpa using hj) (by omega))]
  simp only[List.getElem_cons_zero]at h ⊢
  simp[h]
 |v :: l,i+1,hi,h,hn=>by
  have:=Gp n l i (by simpa using hi) h (λj hj hij=>hn (j+1) (by simpa using hj) (by omega))
  rw[gK,this]
  rfl
def lU:au:=⟨⟨#[]⟩,0,0⟩
def NP (l:List au) (n:ByteArray) (w:World) (e:Ending) (w':World):Prop:=e = .returned (.tuple #[((gK l n).getD lU).val,.bool (gK l n).isSome])/\Grow w w'
theorem dR {w:World} {X:Nat} {c0 c1 c2:Value} {t:TypeId} (h:w.heap[X]? = some (.cells #[c0,c1,c2] t (0,0))):w.cell? ⟨X,0,none⟩=some c0/\w.cell? ⟨X,1,none⟩=some c1/\w.cell? ⟨X,2,none⟩=some c2:=by
 simp[World.cell?,h]
set_option maxRecDepth 100000 in
set_option maxHeartbeats 3200000 in
theorem Em (v:Value) (l:List au) (n:ByteArray) (w:World) (h:ay 3 au.cells w v l):Calls Tryz.prog 73 #[v,.string n] w (NP l n w):=by
 obtain⟨va,vc,rfl,oF,hvl⟩:=h.form
 have HR:=Lib.hid h
 clear h
 have aj:=Lib.hid (show Grow w (w.alloc (.cells #[.string ⟨#[]⟩,.int .u8 0,.int .i64 0] 50))from(Mv.refl _ w).alloc _)
 have lC:=Lib.hid (heap_alloc_new w (.cells #[.string ⟨#[]⟩,.int .u8 0,.int .i64 0] 50))
 have hxl:w.heap.size<(w.alloc (.cells #[.string ⟨#[]⟩,.int .u8 0,.int .i64 0] 50)).heap.size:=by simp
 go_enter Tryz.func73,Tryz.ntmps73
 go_wp2_with fail
 generalize hw1:(w.alloc (.cells #[.string ⟨#[]⟩,.int .u8 0,.int .i64 0] 50))=w1 at *
 clear hw1
 go_loopw [6] (λt wr=>∃ i:Int,t = .int .i64 i /\ -1<=i/\i<l.length/\wr=w1/\∀ j (hj:j<l.length),i<(j:Int)->(l[j].name == n)=false) (λt _=>(intOf t+1).toNat)
 case atStart=>exact⟨(l.length:Int) - 1,rfl,by omega,by omega,rfl,λj hj h=>by omega⟩
 obtain⟨i,rfl,hi1,hi2,rfl,hall⟩:=hrel
 have HA:=Lib.hid hall
 clear hall
 obtain⟨x0,x1,x2⟩:=dR lC.out
 have zt:=bB lC.out
 by_cases hneg:0<=i
 · obtain⟨k,rfl⟩:=Int.eq_ofNat_of_zero_le hneg
   have hk:k<l.length:=by omega
   obtain⟨b,off,cap',e,_,hcc⟩:=(HR.out.later aj.out).at hk
   simp only[Value.slice.injEq,true_and]at e
   obtain⟨rfl,rfl⟩:=e
   have c0:=hcc 0 _ rfl
   have c1:=hcc 1 _ rfl
   have c2:=hcc 2 _ rfl
   have HT:=Lib.hid (λ(h:(l[k].name == n)=true)=>Gp n l k hk h (λj hj hij=>HA.out j hj (by omega)))
   have HF:=Lib.hid (λ(h:(l[k].name == n)=false) (j:Nat) (hj:j<l.length) (hij:(k:Int) - 1<j)=>show(l[j].name == n)=false from by
    by_cases hjk:j=k
    · subst hjk;exact h
    · exact HA.out j hj (by omega))
   generalize l[k]=x at *
   obtain⟨xs,xk,xn⟩:=x
   have hbb:=EL xs n
   simp only[Nat.add_zero]at c0
   have hbl:b<wr.heap.size:=World.block_lt_of_cell? wr _ c0
   have hge:decide ((0:Int)<=k)=true:=by simp
   clear hcc
   cases hn:(xs == n)with
   |true =>
    rw[hn]at hbb
    have yj:=Lib.hid (HT.out hn)
    clear HT HF hn
    obtain⟨hs1,hs2⟩:=vB lC.out (.string xs) (.int .u8 xk) (.int .i64 xn)
    go_wp2_with fail
    obtain⟨t0,t1,t2⟩:=dR hs1
    exact bodyPost_ret (v := .tuple #[au.val ⟨xs,xk,xn⟩,.bool true]) (by simp[results,Tryz.results73,go_sem,t0,t1,t2]) rfl ⟨by rw[yj.out];rfl,bM aj.out hs2 (λb e=>by omega)⟩
   |false =>
    rw[hn]at hbb
    have HX:=Lib.hid (HF.out hn)
    clear HT HF hn
    go_wp2_with fail
    go_roundw
    case rel=>exact⟨(k:Int) - 1,by go_num,by omega,by omega,trivial,HX.out⟩
    case measure=>simp[intOf] <;> omega
 · have hge:decide (0<=i)=false:=by simp;omega
   have yj:=Lib.hid (Gi l n (λj hj=>HA.out j hj (by omega)))
   clear HA
   obtain⟨hs1,hs2⟩:=vB lC.out (.string ⟨#[]⟩) (.int .u8 0) (.int .i64 0)
   go_wp2_with fail
   obtain⟨t0,t1,t2⟩:=dR hs1
   exact bodyPost_ret (v := .tuple #[au.val ⟨⟨#[]⟩,0,0⟩,.bool false]) (by simp[results,Tryz.results73,go_sem,t0,t1,t2]) rfl ⟨by rw[yj.out];rfl,bM aj.out hs2 (λb e=>by omega)⟩
def lN (l:List au) (n:ByteArray):Int:=if(gK l n).isSome then 22 else 0
def nT (l:List au) (n:ByteArray) (k:Int):Int:=match gK l n with
 |none=>6
 |some v=>if v.kind=k then 0 else 7
def u6 (w:World) (n:Int) (e:Ending) (w':World):Prop:=e = .returned (.int .i64 n)/\Grow w w'
set_option maxRecDepth 100000 in
set_option maxHeartbeats 1600000 in
theorem Eb (v:Value) (l:List au) (n:ByteArray) (w:World) (h:ay 3 au.cells w v l):Calls Tryz.prog 51 #[v,.string n] w (u6 w (lN l n)):=by
 have HC:=Lib.hid (Em v l n w h)
 clear h
 have HE:=Lib.hid (show lN l n=if(gK l n).isSome then 22 else 0 from rfl)
 generalize lN l n=R at *
 go_enter Tryz.func51,Tryz.ntmps51
 go_wp2_with fail
 refine HC.out.mono ?_
 rintro e w2 ⟨rfl,hg⟩
 have HG:=Lib.hid hg
 clear hg
 generalize gK l n=fd at *
 cases fd with
 |none =>
  have HF:=Lib.hid (show R=0 from HE.out)
  simp only[Option.getD_none,Option.isSome_none,lU]
  go_wp2_with fail
  go_ret
  exact⟨dE HF.out.symm,HG.out.alloc _⟩
 |some x =>
  have HF:=Lib.hid (show R=22 from HE.out)
  simp only[Option.getD_some,Option.isSome_some]
  go_wp2_with fail
  go_ret
  exact⟨dE HF.out.symm,HG.out.alloc _⟩
set_option maxRecDepth 100000 in
set_option maxHeartbeats 1600000 in
theorem zM (v:Value) (l:List au) (n:ByteArray) (k:Int) (w:World) (h:ay 3 au.cells w v l):Calls Tryz.prog 98 #[v,.string n,.int .u8 k] w (u6 w (nT l n k)):=by
 have HC:=Lib.hid (Em v l n w h)
 clear h
 have HE:=Lib.hid (show nT l n k=match gK l n with
 |none=>6
 |some v=>if v.kind=k then 0 else 7 from rfl)
 generalize nT l n k=R at *
 go_enter Tryz.func98,Tryz.ntmps98
 go_wp2_with fail
 refine HC.out.mono ?_
 rintro e w2 ⟨rfl,hg⟩
 have HG:=Lib.hid hg
 clear hg
 generalize gK l n=fd at *
 cases fd with
 |none =>
  have HF:=Lib.hid (show R=6 from HE.out)
  simp only[Option.getD_none,Option.isSome_none,lU]
  go_wp2_with fail
  go_ret
  exact⟨dE HF.out.symm,HG.out.alloc _⟩
 |some x =>
  obtain⟨xs,xk,xn⟩:=x
  have HF:=Lib.hid (show R=if xk=k then 0 else 7 from HE.out)
  simp only[Option.getD_some,Option.isSome_some]
  by_cases hk:xk=k
  · subst hk
    have Jl:=Lib.hid (show R=0 from by rw[HF.out,if_pos rfl])
    go_wp2_with fail
    go_ret
    exact⟨dE Jl.out.symm,HG.out.alloc _⟩
  · have Jl:=Lib.hid (show R=7 from by rw[HF.out,if_neg hk])
    have hne:(xk != k)=true:=by simpa using hk
    clear hk
    go_wp2_with fail
    go_ret
    exact⟨dE Jl.out.symm,HG.out.alloc _⟩
def ja (P:List bC) (s:ByteArray):Int:=match P.findIdx? (λp=>p.name == s)with
 |some i=>i
 |none => -1
theorem UA (P:List bC) (s:ByteArray) (j:Nat) (hj:j<P.length) (h:(P[j].name == s)=true) (hn:∀ i (hi:i<P.length),i<j->(P[i].name == s)=false):ja P s=j:=by
 have h1:P.findIdx? (λp=>p.name == s)=some j:=by
  rw[List.findIdx?_eq_some_iff_getElem]
  exact⟨hj,h,λi hi=>by simp[hn i (by omega) hi]⟩
 unfold ja;rw[h1]
theorem TV (P:List bC) (s:ByteArray) (hn:∀ i (hi:i<P.length),(P[i].name == s)=false):ja P s = -1:=by
 unfold ja
 rw[List.findIdx?_eq_none_iff.2 λx hx => ?_]
 obtain⟨i,hi,rfl⟩:=List.mem_iff_getElem.1 hx
 exact hn i hi
set_option maxRecDepth 100000 in
set_option maxHeartbeats 1600000 in
theorem Vl (q:aN) (s:ByteArray) (X:Nat) (w:World) (t:TypeId) (hX:w.heap[X]? = some (.cells #[.string s] t (0,0))):Calls Tryz.prog 75 #[q.val,.pointer (some ⟨X,0,none⟩)] w (eP w (q.d.name == s)):=by
 obtain⟨qs,aT,qv,⟨bk,bn,bs,bv,bl⟩⟩:=q
 have x0:w.cell? ⟨X,0,none⟩=some (.string s):=by simp[World.cell?,hX]
 have hxl:=lt_of_block hX
 have hbb:=EL qs s
 have HG:=Lib.hid (show Grow w (w.alloc (.cells #[.string qs,qv,.int .u8 bk,.int .i64 bn,.string bs,bv] 48))from(Mv.refl _ w).alloc _)
 clear hX
 simp only[aN.val,aN.d]
 go_enter Tryz.func75,Tryz.ntmps75
 go_wp2_with fail
 go_ret
 exact⟨rfl,HG.out⟩
set_option maxRecDepth 100000 in
set_option maxHeartbeats 3200000 in
theorem Tq (pv:Value) (procs:List aN) (s:ByteArray) (X:Nat) (w:World) (t:TypeId) (hp:uT w pv procs) (hX:w.heap[X]? = some (.cells #[.string s] t (0,0))):Calls Tryz.prog 74 #[pv,.func (.func 75) #[] #[.pointer (some ⟨X,0,none⟩)]] w (u6 w (ja (procs.map aN.d) s)):=by
 obtain⟨pa,pc,rfl,-,hpl⟩:=hp.row.form
 have HP:=Lib.hid hp
 have HX:=Lib.hid hX
 clear hp hX
 go_enter Tryz.func74,Tryz.ntmps74
 go_wp2_with fail
 go_loopw [8] (λt wr=>∃ j:Nat,t = .int .i64 j/\j<=procs.length/\Grow w wr/\∀ i (hi:i<procs.length),i<j->(procs[i].d.name == s)=false) (λt _=>procs.length - (intOf t).toNat)
 case atStart=>exact⟨0,rfl,Nat.zero_le _,Mv.refl _ _,λi hi h=>by omega⟩
 obtain⟨j,rfl,hj,hg,hall⟩:=hrel
 have HG:=Lib.hid hg
 have HA:=Lib.hid hall
 clear hall hg
 by_cases hlt:j<procs.length
 · obtain⟨pb,po,jd,hpv,-,hcc⟩:=(HP.out.later HG.out).row.at hlt
   simp only[Value.slice.injEq,true_and]at hpv
   obtain⟨rfl,rfl⟩:=hpv
   have HT:=Lib.hid (λ(h:(procs[j].d.name == s)=true)=>UA (procs.map aN.d) s j (by simpa using hlt) (by simpa using h) (λi hi hij=>by simpa using HA.out i (by simpa using hi) hij))
   have HF:=Lib.hid (λ(h:(procs[j].d.name == s)=false)=>show ∀ i (hi:i<procs.length),i<j+1->(procs[i].d.name == s)=false from λi hi hij=>by
    by_cases hij2:i=j
    · subst hij2;exact h
    · exact HA.out i hi (by omega))
   have HC:=Lib.hid (λz (hz:Grow wr z)=>Vl procs[j] s X z t (ah HX.out (gtr HG.out hz)))
   have fP:=Lib.hid ((HP.out.later HG.out).each _ (List.getElem_mem hlt))
   generalize hq:(procs[j].d.name == s)=bq at *
   generalize procs[j]=q at *
   obtain⟨qs,aT,qv,⟨bk,bn,bs,bv,bl⟩⟩:=q
   obtain⟨qa,qc,rfl,-,-⟩:=fP.out.form
   obtain⟨ba,bc,rfl,-,-⟩:=fP.out.body.form
   have c0:=hcc 0 _ rfl
   have c1:=hcc 1 _ rfl
   have c2:=hcc 2 _ rfl
   have c3:=hcc 3 _ rfl
   have c4:=hcc 4 _ rfl
   have c5:=hcc 5 _ rfl
   simp only[Nat.add_zero]at c0
   have hbl:pb<wr.heap.size:=World.block_lt_of_cell? wr _ c0
   simp only[aN.val]at HC
   have mq:=Lib.hid (HC.out wr (Mv.refl _ _))
   clear hcc HC hq
   go_wp2_with fail
   refine mq.out.mono ?_
   rintro e w2 ⟨rfl,hg2⟩
   have HG2:=Lib.hid (gtr HG.out hg2)
   clear hg2 c0 c1 c2 c3 c4 c5
   cases bq with
   |true =>
    have fo:=Lib.hid (HT.out rfl)
    clear HT HF
    go_wp2_with fail
    go_ret
    exact⟨dE fo.out.symm,HG2.out⟩
   |false =>
    have fo:=Lib.hid (HF.out rfl)
    clear HT HF
    go_wp2_with fail
    go_roundw
    case rel=>exact⟨j+1,by go_num,by omega,HG2.out,fo.out⟩
    case measure=>simp[intOf];omega
 · have HR:=Lib.hid (TV (procs.map aN.d) s (λi hi=>by
    have hi':i<procs.length:=by simpa using hi
    simpa using HA.out i hi' (by omega)))
   go_wp2_with fail
   go_ret
   exact⟨dE HR.out.symm,HG.out⟩
set_option maxRecDepth 100000 in
set_option maxHeartbeats 1600000 in
theorem Br (p:aB) (s:ByteArray) (w:World) (hp:jm w p):Calls Tryz.prog 52 #[p.val,.string s] w (u6 w (ja p.d.procs s)):=by
 obtain⟨vars,vv,procs,pv,⟨k,n,ns,kv,l⟩⟩:=p
 obtain⟨⟨va,vc,rfl⟩,⟨pa,pc,rfl⟩,hm⟩:=hp.form
 obtain⟨ka,kc,rfl,-,-⟩:=hm.form
 clear hm
 have HG:=Lib.hid (show Grow w ((w.alloc (.cells #[.slice va vars.length vc,.slice pa procs.length pc,.int .u8 k,.int .i64 n,.string ns,.slice ka l.length kc] 42)).alloc (.cells #[.string s] 9))from((Mv.refl _ w).alloc _).alloc _)
 have HX:=Lib.hid (show((w.alloc (.cells #[.slice va vars.length vc,.slice pa procs.length pc,.int .u8 k,.int .i64 n,.string ns,.slice ka l.length kc] 42)).alloc (.cells #[.string s] 9)).heap[w.heap.size+1]? = some (.cells #[.string s] 9 (0,0))from by
  have:=heap_alloc_new (w.alloc (.cells #[.slice va vars.length vc,.slice pa procs.length pc,.int .u8 k,.int .i64 n,.string ns,.slice ka l.length kc] 42)) (.cells #[.string s] 9)
  simpa using this)
 have HC:=Lib.hid (Tq _ procs s _ _ _ (hp.procs.later HG.out) HX.out)
 have HE:=Lib.hid (show(aB.d ⟨vars,.slice va vars.length vc,procs,.slice pa procs.length pc,.mk k n ns (.slice ka l.length kc) l⟩).procs=procs.map aN.d from rfl)
 rw[HE.out]
 simp only at HC
 clear hp HX HE
 simp only[aB.val]
 go_enter Tryz.func52,Tryz.ntmps52
 go_wp2_with fail
 refine HC.out.mono ?_
 rintro e w2 ⟨rfl,hg⟩
 have HG2:=Lib.hid (gtr HG.out hg)
 clear hg
 go_wp2_with fail
 go_ret
 exact⟨rfl,HG2.out⟩
end Go.Proofs.YtbpodipdfohikaaGreat
