import Derived.Test.YtnobahchcongnaaGreatF42
import Derived.Test.YtnobahchcongnaaGreatF41
import Derived.Laws.StructEq
set_option linter.unusedSimpArgs false
set_option linter.unusedVariables false
set_option maxRecDepth 100000
set_option maxHeartbeats 25600000
namespace Go.Proofs.YtnobahchcongnaaGreat
section
open Go.RowKit
section
variable {P:Program} {Q:Exit->Act->World->Prop}
def Qs (P:Program) (Q:Exit->Act->World->Prop) (ops:Array Oper) (suf:List Oper):Exit->Act->World->Prop
 |.normal,a,w=>wpList P ops Q suf a w
 |e,a,w=>Q e a w
theorem Xu {ops:Array Oper} {suf:List Oper} (h:LetsOut (Qs P Q ops suf)):LetsOut Q:=h
theorem Oper._v {ops:Array Oper} {suf:List Oper} {o:Oper} {a:Act} {w:World} {K:Act->World->Prop} (h:o.wp P a w K (Qs P Q ops suf)):o.wp P a w K Q:=by
 unfold Oper.wp at *;generalize (execOp a.eval o).run P w=r at *;cases r with
 |ok n w' =>
  cases n <;> simp only[Oper.upon]at h ⊢ <;>
   first
    |exact h
    |exact Calls.mono h (λe w'' he=>by cases e <;> exact he)
 |halt x w'=>cases x <;> simp only[Oper.upon]at h ⊢ <;> exact h
def E9 (l:List Oper):Bool:=l.all λo=>o.guard.isNone
theorem NU {l:List Oper} (h:E9 l=true) {i:Nat} {o:Oper} (ho:l[i]? = some o):o.guard=none:=by
 have:=List.all_eq_true.1 h o (List.mem_of_getElem? ho)
 simpa using this
theorem Jd {ops:Array Oper} {i:Nat} {o:Oper} {K:Act->World->Prop} {a:Act} {w:World} (ho:ops[i]? = some o) (hg:o.guard=none):wpOp P ops Q i K a w↔(o.wp P a w K Q\/(o.asks P a w/\LetsOut Q)):=by
 unfold wpOp;rw[ho];have hw:Region.wanted o (yielded ops a.tmps)=true:=by simp[Region.wanted,hg]
 simp only[hw,if_true]
def BX (ws:List (List Nat)) (m n:Nat):Bool:=((List.range n).all λi=>(ws.getD i []).all λj=>decide (j<i)) && ((List.range n).all λi=>decide (i<m) || CK ws i (List.range i))
theorem Oy {ws:List (List Nat)} {e:Nat} {L:Array Bool} (h:CK ws e (List.range e)=true) (hcl:qh ws L) (hw:∀ j∈ws.getD e [],L.getD j false=true):∀ i,i<e->L.getD i false=true:=by
 have key:∀ n i,e - i<=n->i<e->L.getD i false=true:=by
  intro n
  induction n with
  |zero=>intro i hn hi;omega
  |succ n ih =>
   intro i hn hi;have h2:=List.all_eq_true.1 h i (List.mem_range.2 hi);simp only[Bool.and_eq_true,decide_eq_true_eq,Bool.or_eq_true,List.any_eq_true,List.contains_iff_mem]at h2;obtain⟨h3,h4|⟨m,hm,h5,h6⟩⟩:=h2
   · exact hw i h4
   · exact hcl m (ih m (by omega) (List.mem_range.1 hm)) i h6
 exact λi hi=>key _ i (Nat.le_refl _) hi
theorem Fa {ops:Array Oper} {i:Nat} {o:Oper} (ho:ops[i]? = some o):(dM ops).getD i []=(o.after.toList.filter (Region.binds .any)).map (·.on):=by
 simp[dM,List.getD,ho]
theorem vN {ops:Array Oper} {L:Array Bool} {i:Nat} (hs:L.size=ops.size):i∈Region.ready .any ops L↔i<ops.size/\L.getD i false=false/\∀ j∈(dM ops).getD i [],L.getD j false=true:=by
 rw[mem_ready];constructor
 · rintro⟨h1,o,ho,h2⟩;have hi:i<ops.size:=(Array.getElem?_eq_some_iff.1 ho).1;refine⟨hi,?_,λj hj => ?_⟩
   · simp only[Array.getD,hs,hi,dite_true]at h1 ⊢;exact h1
   · rw[Fa ho]at hj;obtain⟨e,he,rfl⟩:=List.mem_map.1 hj;obtain⟨he1,he2⟩:=List.mem_filter.1 he;exact h2 e (by simpa using he1) he2
 · rintro⟨hi,h1,h2⟩;refine⟨by simp only[Array.getD,hs,hi,dite_true]at h1 ⊢;exact h1,ops[i],by simp[hi],λe he hb=>h2 e.on ?_⟩;rw[Fa (o:=ops[i]) (by simp[hi])];exact List.mem_map.2 ⟨e,List.mem_filter.2 ⟨by simpa using he,hb⟩,rfl⟩
theorem Xv {ws:List (List Nat)} {L:Array Bool} {i:Nat} (h:qh ws L) (hw:∀ j∈ws.getD i [],L.getD j false=true):qh ws (L.setIfInBounds i true):=λj hj k hk=>by
 by_cases e:k=i
 · subst e;by_cases hl:k<L.size
   · simp[Array.getD,hl]
   · have:L.setIfInBounds k true=L:=Array.setIfInBounds_eq_of_size_le (by omega);rw[this]at hj ⊢;exact h j hj k hk
 · rw[getD_set_ne false (λx=>e x.symm)];by_cases e2:j=i
   · subst e2;exact hw k hk
   · rw[getD_set_ne false (λx=>e2 x.symm)]at hj;exact h j hj k hk
theorem V9 {l:List Oper} {m:Nat} (hsp:BX (dM l.toArray) m l.length=true) (hg:E9 l=true):∀ (r:List Oper) (p f:Nat) (L:Array Bool) (a:Act) (x:World),p+r.length=l.length->m<=p->l.drop p=r->r.length<=f->L.size=l.length->(∀ j,j<l.length->L.getD j false=decide (j<p))->wpList P l.toArray Q r a x->wpAny P .any l.toArray Q f L a x:=by
 simp only[BX,Bool.and_eq_true]at hsp;obtain⟨hlt,hbe⟩:=hsp;intro r
 induction r with
 |nil =>
  intro p f L a x hp hm hd hf hL hl h;have hr:Region.ready .any l.toArray L=[]:=List.eq_nil_iff_forall_not_mem.2 λi hi=>by
   obtain⟨h1,h2,-⟩:=(vN (by simpa using hL)).1 hi;simp only[List.size_toArray]at h1;rw[hl i h1]at h2;simp at hp h2;omega
  cases f with
  |zero=>exact⟨hr,h⟩
  |succ f=>exact⟨λ_=>h,λi hi=>by rw[hr]at hi;cases hi⟩
 |cons o r ih =>
  intro p f L a x hp hm hd hf hL hl h;simp only[List.length_cons]at hp hf;obtain⟨f,rfl⟩:∃ f',f=f'+1:=⟨f - 1,by omega⟩;have hpl:p<l.length:=by omega
  have hop:l[p]? = some o:=by
   have:=congrArg List.head? hd;rw[List.head?_drop]at this;simpa using this
  have hgo:=NU hg hop;have hcl:qh (dM l.toArray) L:=λj hj k hk=>by
   have hjl:j<l.length:=by
    rcases Nat.lt_or_ge j l.length with h|h
    · exact h
    · simp[Array.getD,hL,Nat.not_lt.2 h]at hj
   have h1:=List.all_eq_true.1 (List.all_eq_true.1 hlt j (List.mem_range.2 hjl)) k hk;simp only[decide_eq_true_eq]at h1;rw[hl j hjl]at hj;rw[hl k (by omega)];simp at hj ⊢;omega
  have BA:p∈Region.ready .any l.toArray L:=(vN (by simpa using hL)).2 ⟨by simpa using hpl,by rw[hl p hpl];simp,λj hj=>by
   have h1:=List.all_eq_true.1 (List.all_eq_true.1 hlt p (List.mem_range.2 hpl)) j hj;simp only[decide_eq_true_eq]at h1;rw[hl j (by omega)];simpa using h1⟩
  refine⟨λhe=>(by rw[he]at BA;cases BA),λi hi => ?_⟩;have hie:i=p:=by
   obtain⟨h1,h2,h3⟩:=(vN (by simpa using hL)).1 hi;simp only[List.size_toArray]at h1;rw[hl i h1]at h2;simp only[decide_eq_false_iff_not]at h2;rcases Nat.lt_or_ge p i with h4|h4
   · exfalso;have h5:=List.all_eq_true.1 hbe i (List.mem_range.2 h1);simp only[Bool.or_eq_true,decide_eq_true_eq]at h5;rcases h5 with h5|h5
     · omega
     · have:=Oy h5 hcl h3 p h4;rw[hl p hpl]at this;simp at this
   · omega
  subst hie;rw[Jd (by simpa using hop) hgo];have h':=h;rw[wpList]at h';have hw:Region.wanted o (yielded l.toArray a.tmps)=true:=by simp[Region.wanted,hgo]
  simp only[hw,if_true]at h';rcases h' with h' | h'
  · refine .inl (Oper.wp_mono (λa' w' hK => ?_) h');refine ih (i+1) f _ a' w' (by omega) (by omega) ?_ (by omega) (by simpa using hL) (λj hj => ?_) hK
    · have:=congrArg List.tail hd
      simpa[List.tail_drop]using this
    · by_cases e:j=i
      · subst e;simp[Array.getD,hL,hj]
      · rw[getD_set_ne false (λx=>e x.symm),hl j hj];by_cases h6:j<i
        · simp[h6];omega
        · simp[h6];omega
  · exact .inr h'
theorem WG {pre suf:List Oper} {a:Act} {w:World} (hsp:BX (dM (pre ++ suf).toArray) pre.length (pre ++ suf).length=true) (hg:E9 (pre ++ suf)=true)
 (h:wpAny P .any pre.toArray (Qs P Q (pre ++ suf).toArray suf) pre.toArray.size (Array.replicate pre.toArray.size false) a w):wpAny P .any (pre ++ suf).toArray Q (pre ++ suf).toArray.size (Array.replicate (pre ++ suf).toArray.size false) a w:=by
 have Sc:=hsp;simp only[BX,Bool.and_eq_true]at Sc;obtain⟨hlt,hbe⟩:=Sc;have hln:(pre ++ suf).length=pre.length+suf.length:=List.length_append;have hge:∀ i,i<pre.length->(pre ++ suf)[i]? = pre[i]? := λi hi=>List.getElem?_append_left hi;have Nb:∀ i,i<pre.length->(dM (pre ++ suf).toArray).getD i []=(dM pre.toArray).getD i []:=λi hi=>by
  have h1:pre[i]? = some pre[i]:=List.getElem?_eq_getElem hi;rw[Fa (o:=pre[i]) (by simpa using(hge i hi).trans h1),Fa (o:=pre[i]) (by simp)]
 have key:∀ (fuel:Nat) (La L:Array Bool) (a:Act) (x:World),La.size=pre.length->L.size=(pre ++ suf).length->(∀ j,j<pre.length->La.getD j false=L.getD j false)->(∀ j,pre.length<=j->L.getD j false=false)->qh (dM (pre ++ suf).toArray) L ->
  wpAny P .any pre.toArray (Qs P Q (pre ++ suf).toArray suf) fuel La a x->wpAny P .any (pre ++ suf).toArray Q (fuel+suf.length) L a x:=by
  intro fuel
  have hmin:∀ (La L:Array Bool),La.size=pre.length->L.size=(pre ++ suf).length->(∀ j,j<pre.length->La.getD j false=L.getD j false)->(∃ j,j<pre.length/\L.getD j false=false)->∃ i,i∈Region.ready .any pre.toArray La:=by
   intro La L h1 h2 h3 hj;obtain⟨j,hj⟩:=hj;have:∀ n j,j<n->j<pre.length->L.getD j false=false->∃ i,i∈Region.ready .any pre.toArray La:=by
    intro n
    induction n with
    |zero=>intro j hn;omega
    |succ n ih =>
     intro j hn hj hf;by_cases hall:∀ k,k<j->L.getD k false=true
     · refine⟨j,(vN (by simpa using h1)).2 ⟨by simpa using hj,by rw[h3 j hj];exact hf,λk hk => ?_⟩⟩;rw[← Nb j hj]at hk;have h4:=List.all_eq_true.1 (List.all_eq_true.1 hlt j (List.mem_range.2 (by omega))) k hk;simp only[decide_eq_true_eq]at h4;rw[h3 k (by omega)];exact hall k h4
     · simp only[Classical.not_forall]at hall;obtain⟨k,hk,pI⟩:=hall;exact ih k (by omega) (by omega) (by simpa using pI)
   exact this (j+1) j (by omega) hj.1 hj.2
  have hdone:∀ (f:Nat) (L:Array Bool) (a:Act) (x:World),suf.length<=f->L.size=(pre ++ suf).length->(∀ j,j<pre.length->L.getD j false=true)->(∀ j,pre.length<=j->L.getD j false=false)->wpList P (pre ++ suf).toArray Q suf a x->wpAny P .any (pre ++ suf).toArray Q f L a x:=λf L a x hf hL h1 h2 h=>by
   refine V9 hsp hg suf pre.length f L a x hln.symm (Nat.le_refl _) (by simp) hf hL (λj hj => ?_) h;rcases Nat.lt_or_ge j pre.length with h3|h3
   · rw[h1 j h3];simp[h3]
   · rw[h2 j h3];simp;omega
  induction fuel with
  |zero =>
   intro La L a x xA hL he hz hcl h;refine hdone _ L a x (by omega) hL (λj hj => ?_) hz h.2;cases hv:L.getD j false with
   |true=>rfl
   |false =>
    obtain⟨i,hi⟩:=hmin La L xA hL he ⟨j,hj,hv⟩;rw[h.1]at hi;cases hi
  |succ fuel ih =>
   intro La L a x xA hL he hz hcl h;by_cases hall:∀ j,j<pre.length->L.getD j false=true
   · refine hdone _ L a x (by omega) hL hall hz (h.1 (List.eq_nil_iff_forall_not_mem.2 λi hi => ?_));obtain⟨h1,h2,-⟩:=(vN (by simpa using xA)).1 hi;simp only[List.size_toArray]at h1;rw[he i h1,hall i h1]at h2;cases h2
   · simp only[Classical.not_forall]at hall;obtain⟨j,hj,Hw⟩:=hall;have Hw:L.getD j false=false:=by simpa using Hw
     rw[show fuel+1+suf.length=(fuel+suf.length)+1 by omega];refine⟨λhr => ?_,λi hi => ?_⟩
     · exfalso;obtain⟨i,hi⟩:=hmin La L xA hL he ⟨j,hj,Hw⟩;obtain⟨h1,h2,h3⟩:=(vN (by simpa using xA)).1 hi;simp only[List.size_toArray]at h1;have:i∈Region.ready .any (pre ++ suf).toArray L:=(vN (by simpa using hL)).2 ⟨by simp;omega,by rw[← he i h1];exact h2,λk hk=>by
        rw[Nb i h1]at hk;have h4:=h3 k hk;rcases Nat.lt_or_ge k pre.length with h5|h5
        · rw[← he k h5];exact h4
        · simp[Array.getD,xA,Nat.not_lt.2 h5]at h4⟩
       rw[hr]at this;cases this
     · obtain⟨h1,h2,h3⟩:=(vN (by simpa using hL)).1 hi;simp only[List.size_toArray]at h1;have him:i<pre.length:=by
        rcases Nat.lt_or_ge i pre.length with h4|h4
        · exact h4
        · exfalso;have h5:=List.all_eq_true.1 hbe i (List.mem_range.2 h1);simp only[Bool.or_eq_true,decide_eq_true_eq]at h5;rcases h5 with h5|h5
          · omega
          · have:=Oy h5 hcl h3 j (by omega);rw[Hw]at this;cases this
       have hir:i∈Region.ready .any pre.toArray La:=(vN (by simpa using xA)).2 ⟨by simpa using him,by rw[he i him];exact h2,λk hk=>by
        rw[← Nb i him]at hk;have h4:=List.all_eq_true.1 (List.all_eq_true.1 hlt i (List.mem_range.2 h1)) k hk;simp only[decide_eq_true_eq]at h4;rw[he k (by omega)];exact h3 k hk⟩
       have hp:=h.2 i hir;have hpo:pre[i]? = some pre[i]:=List.getElem?_eq_getElem him;have hlo:(pre ++ suf)[i]? = some pre[i]:=(hge i him).trans hpo;have hgo:=NU hg hlo;rw[Jd (o:=pre[i]) (by simp) hgo]at hp;rw[Jd (by simpa using hlo) hgo];rcases hp with hp|⟨hp1,hp2⟩
       · refine .inl (Oper.wp_mono (λa' w' hK => ?_) (Oper._v hp));refine ih (La.setIfInBounds i true) (L.setIfInBounds i true) a' w' (by simpa using xA) (by simpa using hL) (λk hk => ?_) (λk hk => ?_) (Xv hcl h3) hK
         · by_cases e:k=i
           · subst e;simp[Array.getD,xA,hL,hk];omega
           · rw[getD_set_ne false (λx=>e x.symm),getD_set_ne false (λx=>e x.symm)];exact he k hk
         · rw[getD_set_ne false (by omega)];exact hz k hk
       · exact .inr ⟨hp1,Xu hp2⟩
 have hf:∀ n j,(Array.replicate n false).getD j false=false:=by
  intro n j;by_cases hj:j<n <;> simp[Array.getD,hj]
 have:=key pre.toArray.size (Array.replicate pre.toArray.size false) (Array.replicate (pre ++ suf).toArray.size false) a w (by simp) (by simp) (λj _=>by rw[hf,hf]) (λj _=>hf _ j) (λj hj=>by rw[hf]at hj;cases hj) h;rw[show(pre ++ suf).toArray.size=pre.toArray.size+suf.length by simp]at this ⊢;exact this
theorem xB {id:Nat} {a:Act} {w:World} {l:List Oper} (m:Nat) (N:Nat) (ds:List (Option Tmp)) (ns:List (List Nat)) (T:List Nat) (Ss:List Sp) (mD:AS ((Ss.map Sp.k).filterMap Kd.zero) T 0 Ss) (hR0:∀ i R iv z t,(Ss.map Sp.k).getD i .op = .rs R iv z t->R<w.drew.heap.size/\w.drew.heap[R]? = some (.cells z t (0,0)))
 (hstep:kP (rH P ds (dM (l.take m).toArray) ns T Ss w.drew a) 0 (l.take m))
 (hend:∀ (vs:Nat->Value) (x:World),GE T Ss w.drew vs x->wpList P l.toArray Q (l.drop m) (aR ds (λj=>sv (Ss.getD j .n) (vs j)) (rg 0 ds) a) x)
 (hm:P.follows .mixedOrders=true:=by kernel_rfl) (hN:a.tmps.size=N:=by rfl) (hok:gB N (l.take m).toArray ds (dM (l.take m).toArray) ns []=true:=by kernel_rfl) (hkd:AV (dM (l.take m).toArray) (pJ T Ss.length) (Ss.map Sp.k)=true:=by kernel_rfl) (hlen:(Ss.map Sp.k).length=(l.take m).length:=by rfl) (hr:rg 0 ds=List.range (l.take m).length:=by rfl) (hc:rT T Ss=true:=by kernel_rfl)
 (hsp:BX (dM l.toArray) m l.length=true:=by kernel_rfl) (hg:E9 l=true:=by kernel_rfl) (wN:(l.take m).length=m:=by rfl):(Code.region id l.toArray true).wp P Q a w:=by
 refine wp_region_any hm ?_;have hl:l.take m ++ l.drop m=l:=List.take_append_drop m l;have h1:=WG (P:=P) (Q:=Q) (pre:=l.take m) (suf:=l.drop m) (a:=a) (w:=w.drew) (by rw[hl,wN];exact hsp) (by rw[hl];exact hg) (by
  refine IZ N ds (dM (l.take m).toArray) ns (pJ T Ss.length) (Ss.map Sp.k) (Ss.map Sp.P) hN hok hkd hlen (wO Ss) (by have:=mD.all;rwa[← List.range_eq_range']at this) hR0 (BH (λ_ _ h=>h.s) _ _ hstep) λvs x h => ?_;have h1:=GE.of h hc;have h2:=hend vs x h1;rw[hl];rwa[hr,Av _ _ λj _=>h1.c j]at h2)
 rw[hl]at h1;exact h1
end
def fZ:List aA->ByteArray->Option aA
 | [],_=>none
 |v :: l,n=>match fZ l n with
  |some x=>some x
  |none=>if v.name == n then some v else none
theorem NV (l:List aA) (n:ByteArray) (h:∀ j (hj:j<l.length),(l[j].name == n)=false):fZ l n=none:=by
 induction l with
 |nil=>rfl
 |cons v l ih =>
  have h1:=ih (λj hj=>h (j+1) (by simpa using hj));have h2:=h 0 (by simp);rw[fZ,h1];simp only[List.getElem_cons_zero]at h2;simp[h2]
theorem Oz (n:ByteArray):∀ (l:List aA) (i:Nat) (hi:i<l.length),(l[i].name == n)=true->(∀ j (hj:j<l.length),i<j->(l[j].name == n)=false)->fZ l n=some l[i]
 | [],i,hi,_,_=>by simp at hi
 |v :: l,0,_,h,hn=>by
  rw[fZ,NV l n (λj hj=>hn (j+1) (by simpa using hj) (by omega))];simp only[List.getElem_cons_zero]at h ⊢;simp[h]
 |v :: l,i+1,hi,h,hn=>by
  have:=Oz n l i (by simpa using hi) h (λj hj hij=>hn (j+1) (by simpa using hj) (by omega));rw[fZ,this];rfl
def o9:aA:=⟨⟨#[]⟩,0,0⟩
def _w (l:List aA) (n:ByteArray) (w:World) (e:Ending) (w':World):Prop:=e = .returned (.tuple #[((fZ l n).getD o9).val,.bool (fZ l n).isSome])/\Grow w w'
theorem yO {w:World} {X:Nat} {c0 c1 c2:Value} {t:TypeId} (h:w.heap[X]? = some (.cells #[c0,c1,c2] t (0,0))):w.cell? ⟨X,0,none⟩=some c0/\w.cell? ⟨X,1,none⟩=some c1/\w.cell? ⟨X,2,none⟩=some c2:=by
 simp[World.cell?,h]
theorem JV (v:Value) (l:List aA) (n:ByteArray) (w:World) (h:ax 3 aA.cells w v l):Calls Tryz.prog 43 #[v,.string n] w (_w l n w):=by
 obtain⟨va,vc,rfl,oC,hvl⟩:=h.form;have HR:=ł h;clear h;have bg:=ł (show Grow w (w.alloc (.cells #[.string ⟨#[]⟩,.int .u8 0,.int .i64 0] 54))from(Mv.refl _ w).alloc _);have su:=ł (heap_alloc_new w (.cells #[.string ⟨#[]⟩,.int .u8 0,.int .i64 0] 54));have hxl:w.heap.size<(w.alloc (.cells #[.string ⟨#[]⟩,.int .u8 0,.int .i64 0] 54)).heap.size:=by simp
 go_enter Tryz.func43,Tryz.ntmps43
 go_wp2_with fail;generalize hw1:(w.alloc (.cells #[.string ⟨#[]⟩,.int .u8 0,.int .i64 0] 54))=w1 at *;clear hw1
 go_loopw [6] (λt wr=>∃ i:Int,t = .int .i64 i /\ -1<=i/\i<l.length/\wr=w1/\∀ j (hj:j<l.length),i<(j:Int)->(l[j].name == n)=false) (λt _=>(intOf t+1).toNat)
 case atStart=>exact⟨(l.length:Int) - 1,rfl,by omega,by omega,rfl,λj hj h=>by omega⟩
 obtain⟨i,rfl,hi1,hi2,rfl,hall⟩:=hrel;have HA:=ł hall;clear hall;obtain⟨x0,x1,x2⟩:=yO su.out;have zt:=aD su.out;by_cases hneg:0<=i
 · obtain⟨k,rfl⟩:=Int.eq_ofNat_of_zero_le hneg;have hk:k<l.length:=by omega
   obtain⟨b,off,cap',e,_,hcc⟩:=(HR.out.later bg.out).at hk;simp only[Value.slice.injEq,true_and]at e;obtain⟨rfl,rfl⟩:=e;have c0:=hcc 0 _ rfl;have c1:=hcc 1 _ rfl;have c2:=hcc 2 _ rfl;have HT:=ł (λ(h:(l[k].name == n)=true)=>Oz n l k hk h (λj hj hij=>HA.out j hj (by omega)));have HF:=ł (λ(h:(l[k].name == n)=false) (j:Nat) (hj:j<l.length) (hij:(k:Int) - 1<j)=>show(l[j].name == n)=false from by
    by_cases hjk:j=k
    · subst hjk;exact h
    · exact HA.out j hj (by omega))
   generalize l[k]=x at *;obtain⟨xs,xk,xn⟩:=x;have hbb:=y7 xs n;simp only[Nat.add_zero]at c0;have hbl:b<wr.heap.size:=World.block_lt_of_cell? wr _ c0;have hge:decide ((0:Int)<=k)=true:=by simp
   clear hcc;cases hn:(xs == n)with
   |true =>
    rw[hn]at hbb;have wP:=ł (HT.out hn);clear HT HF hn;obtain⟨hs1,hs2⟩:=Cz su.out (.string xs) (.int .u8 xk) (.int .i64 xn);go_wp2_with fail;obtain⟨t0,t1,t2⟩:=yO hs1;exact bodyPost_ret (v := .tuple #[aA.val ⟨xs,xk,xn⟩,.bool true]) (by simp[results,Tryz.results43,go_sem,t0,t1,t2]) rfl ⟨by rw[wP.out];rfl,jG bg.out hs2 (λb e=>by omega)⟩
   |false =>
    rw[hn]at hbb;have HX:=ł (HF.out hn);clear HT HF hn;go_wp2_with fail
    go_roundw
    case rel=>exact⟨(k:Int) - 1,by go_num,by omega,by omega,trivial,HX.out⟩
    case measure=>simp[intOf] <;> omega
 · have hge:decide (0<=i)=false:=by simp;omega
   have wP:=ł (NV l n (λj hj=>HA.out j hj (by omega)));clear HA;obtain⟨hs1,hs2⟩:=Cz su.out (.string ⟨#[]⟩) (.int .u8 0) (.int .i64 0);go_wp2_with fail;obtain⟨t0,t1,t2⟩:=yO hs1;exact bodyPost_ret (v := .tuple #[aA.val ⟨⟨#[]⟩,0,0⟩,.bool false]) (by simp[results,Tryz.results43,go_sem,t0,t1,t2]) rfl ⟨by rw[wP.out];rfl,jG bg.out hs2 (λb e=>by omega)⟩
def mi (l:List aA) (n:ByteArray):Int:=if(fZ l n).isSome then 22 else 0
def nH (l:List aA) (n:ByteArray) (k:Int):Int:=match fZ l n with
 |none=>6
 |some v=>if v.kind=k then 0 else 7
def AU (w:World) (n:Int) (e:Ending) (w':World):Prop:=e = .returned (.int .i64 n)/\Grow w w'
theorem EK (v:Value) (l:List aA) (n:ByteArray) (w:World) (h:ax 3 aA.cells w v l):Calls Tryz.prog 20 #[v,.string n] w (AU w (mi l n)):=by
 have HC:=ł (JV v l n w h);clear h;have HE:=ł (show mi l n=if(fZ l n).isSome then 22 else 0 from rfl);generalize mi l n=R at *
 go_enter Tryz.func20,Tryz.ntmps20
 go_wp2_with fail;refine HC.out.mono ?_;rintro e w2 ⟨rfl,hg⟩;have HG:=ł hg;clear hg;generalize fZ l n=fd at *;cases fd with
 |none =>
  have HF:=ł (show R=0 from HE.out);simp only[Option.getD_none,Option.isSome_none,o9];go_wp2_with fail;go_ret;exact⟨cB HF.out.symm,HG.out.alloc _⟩
 |some x =>
  have HF:=ł (show R=22 from HE.out);simp only[Option.getD_some,Option.isSome_some];go_wp2_with fail;go_ret;exact⟨cB HF.out.symm,HG.out.alloc _⟩
theorem AJ (v:Value) (l:List aA) (n:ByteArray) (k:Int) (w:World) (h:ax 3 aA.cells w v l):Calls Tryz.prog 72 #[v,.string n,.int .u8 k] w (AU w (nH l n k)):=by
 have HC:=ł (JV v l n w h);clear h;have HE:=ł (show nH l n k=match fZ l n with
 |none=>6
 |some v=>if v.kind=k then 0 else 7 from rfl)
 generalize nH l n k=R at *
 go_enter Tryz.func72,Tryz.ntmps72
 go_wp2_with fail;refine HC.out.mono ?_;rintro e w2 ⟨rfl,hg⟩;have HG:=ł hg;clear hg;generalize fZ l n=fd at *;cases fd with
 |none =>
  have HF:=ł (show R=6 from HE.out);simp only[Option.getD_none,Option.isSome_none,o9];go_wp2_with fail;go_ret;exact⟨cB HF.out.symm,HG.out.alloc _⟩
 |some x =>
  obtain⟨xs,xk,xn⟩:=x;have HF:=ł (show R=if xk=k then 0 else 7 from HE.out);simp only[Option.getD_some,Option.isSome_some];by_cases hk:xk=k
  · subst hk;have mM:=ł (show R=0 from by rw[HF.out,if_pos rfl]);go_wp2_with fail;go_ret;exact⟨cB mM.out.symm,HG.out.alloc _⟩
  · have mM:=ł (show R=7 from by rw[HF.out,if_neg hk]);have hne:(xk != k)=true:=by simpa using hk
    clear hk;go_wp2_with fail;go_ret;exact⟨cB mM.out.symm,HG.out.alloc _⟩
def mq (P:List aU) (s:ByteArray):Int:=match P.findIdx? (λp=>p.name == s)with
 |some i=>i
 |none => -1
theorem Xw (P:List aU) (s:ByteArray) (j:Nat) (hj:j<P.length) (h:(P[j].name == s)=true) (hn:∀ i (hi:i<P.length),i<j->(P[i].name == s)=false):mq P s=j:=by
 have h1:P.findIdx? (λp=>p.name == s)=some j:=by
  rw[List.findIdx?_eq_some_iff_getElem];exact⟨hj,h,λi hi=>by simp[hn i (by omega) hi]⟩
 unfold mq;rw[h1]
theorem WH (P:List aU) (s:ByteArray) (hn:∀ i (hi:i<P.length),(P[i].name == s)=false):mq P s = -1:=by
 unfold mq;rw[List.findIdx?_eq_none_iff.2 λx hx => ?_];obtain⟨i,hi,rfl⟩:=List.mem_iff_getElem.1 hx;exact hn i hi
theorem Yk (q:ak) (s:ByteArray) (X:Nat) (w:World) (t:TypeId) (hX:w.heap[X]? = some (.cells #[.string s] t (0,0))):Calls Tryz.prog 45 #[q.val,.pointer (some ⟨X,0,none⟩)] w (iK w (q.d.name == s)):=by
 obtain⟨qs,aX,qv,⟨bk,bn,bs,bv,bl⟩⟩:=q;have x0:w.cell? ⟨X,0,none⟩=some (.string s):=by simp[World.cell?,hX]
 have hxl:=lt_of_block hX;have hbb:=y7 qs s;have HG:=ł (show Grow w (w.alloc (.cells #[.string qs,qv,.int .u8 bk,.int .i64 bn,.string bs,bv] 35))from(Mv.refl _ w).alloc _);clear hX;simp only[ak.val,ak.d]
 go_enter Tryz.func45,Tryz.ntmps45
 go_wp2_with fail;go_ret;exact⟨rfl,HG.out⟩
theorem VW (pv:Value) (procs:List ak) (s:ByteArray) (X:Nat) (w:World) (t:TypeId) (hp:lC w pv procs) (hX:w.heap[X]? = some (.cells #[.string s] t (0,0))):Calls Tryz.prog 44 #[pv,.func (.func 45) #[] #[.pointer (some ⟨X,0,none⟩)]] w (AU w (mq (procs.map ak.d) s)):=by
 obtain⟨pa,pc,rfl,-,hpl⟩:=hp.row.form;have HP:=ł hp;have HX:=ł hX;clear hp hX
 go_enter Tryz.func44,Tryz.ntmps44
 go_wp2_with fail
 go_loopw [8] (λt wr=>∃ j:Nat,t = .int .i64 j/\j<=procs.length/\Grow w wr/\∀ i (hi:i<procs.length),i<j->(procs[i].d.name == s)=false) (λt _=>procs.length - (intOf t).toNat)
 case atStart=>exact⟨0,rfl,Nat.zero_le _,Mv.refl _ _,λi hi h=>by omega⟩
 obtain⟨j,rfl,hj,hg,hall⟩:=hrel;have HG:=ł hg;have HA:=ł hall;clear hall hg;by_cases hlt:j<procs.length
 · obtain⟨pb,po,Gf,hpv,-,hcc⟩:=(HP.out.later HG.out).row.at hlt;simp only[Value.slice.injEq,true_and]at hpv;obtain⟨rfl,rfl⟩:=hpv;have HT:=ł (λ(h:(procs[j].d.name == s)=true)=>Xw (procs.map ak.d) s j (by simpa using hlt) (by simpa using h) (λi hi hij=>by simpa using HA.out i (by simpa using hi) hij));have HF:=ł (λ(h:(procs[j].d.name == s)=false)=>show ∀ i (hi:i<procs.length),i<j+1->(procs[i].d.name == s)=false from λi hi hij=>by
    by_cases hij2:i=j
    · subst hij2;exact h
    · exact HA.out i hi (by omega))
   have HC:=ł (λz (hz:Grow wr z)=>Yk procs[j] s X z t (ai HX.out (gtr HG.out hz)));have bY:=ł ((HP.out.later HG.out).each _ (List.getElem_mem hlt));generalize hq:(procs[j].d.name == s)=bq at *;generalize procs[j]=q at *;obtain⟨qs,aX,qv,⟨bk,bn,bs,bv,bl⟩⟩:=q;obtain⟨qa,qc,rfl,-,-⟩:=bY.out.form;obtain⟨ba,bc,rfl,-,-⟩:=bY.out.body.form;have c0:=hcc 0 _ rfl;have c1:=hcc 1 _ rfl;have c2:=hcc 2 _ rfl;have c3:=hcc 3 _ rfl;have c4:=hcc 4 _ rfl;have c5:=hcc 5 _ rfl;simp only[Nat.add_zero]at c0;have hbl:pb<wr.heap.size:=World.block_lt_of_cell? wr _ c0;simp only[ak.val]at HC;have rX:=ł (HC.out wr (Mv.refl _ _));clear hcc HC hq;go_wp2_with fail;refine rX.out.mono ?_;rintro e w2 ⟨rfl,hg2⟩;have HG2:=ł (gtr HG.out hg2);clear hg2 c0 c1 c2 c3 c4 c5;cases bq with
   |true =>
    have bZ:=ł (HT.out rfl);clear HT HF;go_wp2_with fail;go_ret;exact⟨cB bZ.out.symm,HG2.out⟩
   |false =>
    have bZ:=ł (HF.out rfl);clear HT HF;go_wp2_with fail
    go_roundw
    case rel=>exact⟨j+1,by go_num,by omega,HG2.out,bZ.out⟩
    case measure=>simp[intOf];omega
 · have HR:=ł (WH (procs.map ak.d) s (λi hi=>by
    have hi':i<procs.length:=by simpa using hi
    simpa using HA.out i hi' (by omega)))
   go_wp2_with fail;go_ret;exact⟨cB HR.out.symm,HG.out⟩
theorem EL (p:cu) (s:ByteArray) (w:World) (hp:qj w p):Calls Tryz.prog 21 #[p.val,.string s] w (AU w (mq p.d.procs s)):=by
 obtain⟨vars,vv,procs,pv,⟨k,n,ns,kv,l⟩⟩:=p;obtain⟨⟨va,vc,rfl⟩,⟨pa,pc,rfl⟩,hm⟩:=hp.form;obtain⟨ka,kc,rfl,-,-⟩:=hm.form;clear hm;obtain⟨-,-,HG⟩:=a2 w (.cells #[.slice va vars.length vc,.slice pa procs.length pc,.int .u8 k,.int .i64 n,.string ns,.slice ka l.length kc] 28) (.cells #[.string s] 9);have HX:=ł (show((w.alloc (.cells #[.slice va vars.length vc,.slice pa procs.length pc,.int .u8 k,.int .i64 n,.string ns,.slice ka l.length kc] 28)).alloc (.cells #[.string s] 9)).heap[w.heap.size+1]? = some (.cells #[.string s] 9 (0,0))from by
  have:=heap_alloc_new (w.alloc (.cells #[.slice va vars.length vc,.slice pa procs.length pc,.int .u8 k,.int .i64 n,.string ns,.slice ka l.length kc] 28)) (.cells #[.string s] 9)
  simpa using this)
 have HC:=ł (VW _ procs s _ _ _ (hp.procs.later HG.out) HX.out);have HE:=ł (show(cu.d ⟨vars,.slice va vars.length vc,procs,.slice pa procs.length pc,.mk k n ns (.slice ka l.length kc) l⟩).procs=procs.map ak.d from rfl);rw[HE.out];simp only at HC;clear hp HX HE;simp only[cu.val]
 go_enter Tryz.func21,Tryz.ntmps21
 go_wp2_with fail;refine HC.out.mono ?_;rintro e w2 ⟨rfl,hg⟩;have HG2:=ł (gtr HG.out hg);clear hg;go_wp2_with fail;go_ret;exact⟨rfl,HG2.out⟩
end
section
open Go.RowKit Go.Instr
attribute [local go_sem ↓] lu
theorem JW {P:Program} {t e:TypeId} {n bytes:Nat} {α:Type} {f:α->List Value} (E:Elem P t e n bytes) (hf:∀ x,(f x).length=n) (a:Option Addr) (l:List α) (x:α) (g:Nat) (w:World) (hr:ax n f w (.slice a l.length l.length) l) (hg:w.heap[g]? = some (.cells (f x).toArray e (0,0))) (h1:∀ u∈f x,u.oneCell'=true) (hlen:l.length<=900000) :
 ∃ a' c' w2,(rG P t t (.slice a l.length l.length) (.slice (some ⟨g,0,none⟩) 1 1) w/\nV P t t (.slice a l.length l.length) (.slice (some ⟨g,0,none⟩) 1 1) w = .slice a' (l.length+1) c'/\appW P t t (.slice a l.length l.length) (.slice (some ⟨g,0,none⟩) 1 1) w=w2) /\
  (ax n f w2 (.slice a' (l.length+1) c') (l ++ [x])/\∀ g,(Value.slice a' (l.length+1) c').ownBlock=some g->∃ cs z,w2.heap[g]? = some (.cells cs e z))/\Grow w w2:=by
 obtain⟨i,z,hi,hz,hsz,hby,hzc⟩:=E.hi;have hsrc:Src P i.size t (.slice (some ⟨g,0,none⟩) 1 1) 1 (f x) w:=Src.ofSlice w E.ht ⟨g,0,none⟩ 1 1 (f x) (by rw[hf,hsz];simp) (λj u hu=>by
  rw[vO,Nat.zero_add];simp only[World.cell?,hg,Option.isSome_none,Bool.false_eq_true,if_false]
  simpa using hu) h1
 have hold:(Builtin.firstCells i.size l.length (.slice a l.length l.length)).run P w.drew = .ok (flat f l).toArray w.drew:=by
  obtain⟨sa,sc,e1,hsc,hsl,hcell⟩:=hr;simp only[Value.slice.injEq,true_and]at e1;obtain⟨rfl,rfl⟩:=e1;cases a with
  |none =>
   obtain rfl:l=[]:=by
    cases l with
    |nil=>rfl
    |cons x l=>obtain⟨b,off,e,_⟩:=hcell 0 x rfl;cases e
   exact run_firstCells_none w.drew i.size 0 0 0
  |some a =>
   refine run_firstCells_some w.drew i.size l.length a l.length l.length (flat f l) (by rw[hsz];exact pY f n hf l) (λj u hu => ?_);obtain⟨i',r,rfl,hi',hu⟩:=flat_get _ n E.hn hf l j u hu;obtain⟨b,off,e1,hc⟩:=hcell i' _ (List.getElem?_eq_getElem hi');simp only[Option.some.injEq]at e1;subst e1;have:=hc r u hu;rw[vO,← Nat.add_assoc];simpa using this
 have hr2:=run_append_grow_src (P:=P) w t t t e i _ E.ht hi hz a l.length l.length (flat f l) hold _ 1 (f x) hsrc (by omega) (by omega) (growslice_fits (by omega) (by rw[hby];have:=E.hb;have:=Nat.mul_le_mul (show l.length+1<=1000000 by omega) this;omega));obtain⟨hok,hv,hw⟩:=vQ hr2;have hge:=grownCap_ge w (l.length+1) l.length e;have hB:=heap_alloc_new w.drew (.cells ((flat f l ++ f x).toArray ++ Builtin.zeroCells z.cells (grownCap w (l.length+1) l.length e - (l.length+1))) e);have hds:w.drew.heap.size=w.heap.size:=rfl;rw[hds]at hB;have hfl:flat f (l ++ [x])=flat f l ++ f x:=by rw[IE];simp[flat]
 have hrw:=ax.Qg (l:=l ++ [x]) (cap:=grownCap w (l.length+1) l.length e) hf hB (λj u hu=>by
  rw[hfl]at hu;have hj:=(List.getElem?_eq_some_iff.1 hu).1;rw[Array.getElem?_append_left (by simpa using hj)]
  simpa using hu) (by simpa using hge) (by simp;omega)
 exact⟨_,_,_,⟨hok,hv,hw⟩,⟨by simpa using hrw,λg hg=>by simp[Value.ownBlock]at hg;subst hg;exact⟨_,_,hB⟩⟩,((Mv.refl _ w).drew).alloc _⟩
theorem Zk (a:Option Addr) (n c:Nat) (w:World) (hn:n<=c) (hl:n<=9223372036854775807):Calls Tryz.prog 73 #[.slice a n c] w λe w'=>e = .returned (.slice a n n)/\w=w':=by
 go_enter Tryz.func73,Tryz.ntmps73
 go_wp2_with fail
 all_goals
  go_ret;exact⟨rfl,rfl⟩
theorem QA (a:Option Addr) (n c:Nat) (w:World) (hn:n<=c) (hl:n<=9223372036854775807):Calls Tryz.prog 74 #[.slice a n c] w λe w'=>e = .returned (.slice a n n)/\w=w':=by
 go_enter Tryz.func74,Tryz.ntmps74
 go_wp2_with fail
 all_goals
  go_ret;exact⟨rfl,rfl⟩
theorem Tryz.ZZ:(Tryz.prog.info? 54).map (λi=>(i.zero,i.size,i.bytes))=some (some (.agg #[.string ⟨#[]⟩,.int .u8 0,.int .i64 0]),3,32):=by kernel_rfl
theorem Tryz.QP:Elem Tryz.prog 22 54 3 32:=Elem.of Tryz.underlying22 Tryz.ZZ rfl (by decide) (by decide)
theorem QQ (x:aA):x.cells.length=3:=rfl
theorem JX {α:Type} {n:Nat} {f:α->List Value} {w:World} {a:Option Addr} {k c:Nat} {l:List α} (h:ax n f w (.slice a k c) l):ax n f w (.slice a l.length l.length) l:=by
 obtain⟨a',c',e,h2,h3,h4⟩:=h;simp only[Value.slice.injEq]at e;obtain⟨rfl,rfl,rfl⟩:=e;exact⟨a,l.length,rfl,Nat.le_refl _,h3,h4⟩
def Sd {α:Type} (n:Nat) (f:α->List Value) (T:TypeId) (v0:Value) (l0 l:List α) (w:World) (e:Ending) (w':World):Prop:=∃ v,e = .returned v/\(ax n f w' v l/\((v=v0/\l=l0)\/∀ g,v.ownBlock=some g->∃ cs z,w'.heap[g]? = some (.cells cs T z)))/\Grow w w'
theorem Pe (v:Value) (l:List Int) (i:Int) (w:World) (h:ax 1 kW w v l) (hb:l.length<=900000):Calls Tryz.prog 47 #[v,.int .i64 i] w (Sd 1 kW 3 v l (l ++ [i]) w):=by
 obtain⟨va,vc,rfl,oC,hvl⟩:=h.form;have ni:=ł (Zk va l.length vc w oC hvl);have bB:=ł (heap_alloc_new w (.cells #[.int .i64 i] 3));have aK:=ł (show Grow w (w.alloc (.cells #[.int .i64 i] 3))from(Mv.refl _ w).alloc _);obtain⟨a',c',w2,⟨hok,hv,hw⟩,hrow,hg⟩:=JW Tryz.KE (f:=kW) (λ_=>rfl) va l i w.heap.size (w.alloc (.cells #[.int .i64 i] 3)) ((JX h).later aK.out) bB.out (by simp[kW,Value.oneCell']) hb;have HRW:=ł hrow;have HG2:=ł (gtr aK.out hg);clear h hrow hg bB
 go_enter Tryz.func47,Tryz.ntmps47
 go_wp2_with fail;refine ni.out.mono ?_;rintro e w3 ⟨rfl,rfl⟩;go_wp2_with fail;go_ret;exact⟨_,rfl,⟨HRW.out.1,.inr HRW.out.2⟩,HG2.out⟩
def kT (t:Tree) (i:Nat) (l:List aA):List aA:=if t.kind=54/\i=1 then l ++ [⟨t.name,1,0⟩]else if t.kind=55/\i=0 then l ++ [⟨t.name,3,0⟩]else l
end
end Go.Proofs.YtnobahchcongnaaGreat
