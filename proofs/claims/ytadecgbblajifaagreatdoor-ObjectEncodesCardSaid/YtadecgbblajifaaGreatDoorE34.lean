import Derived.Test.YtadecgbblajifaaGreatDoorE33
import Derived.Test.YtadecgbblajifaaGreatDoorE28
set_option linter.unusedSimpArgs false
set_option linter.unusedVariables false
set_option maxRecDepth 100000
set_option maxHeartbeats 25600000
namespace Go.Proofs.YtadecgbblajifaaGreatDoor
section
open Go.RowKit
section
variable {P:Program} {Q:Exit->Act->World->Prop}
def Qs (P:Program) (Q:Exit->Act->World->Prop) (ops:Array Oper) (suf:List Oper):Exit->Act->World->Prop
 |.normal,a,w=>wpList P ops Q suf a w
 |e,a,w=>Q e a w
theorem Yx {ops:Array Oper} {suf:List Oper} (h:LetsOut (Qs P Q ops suf)):LetsOut Q:=h
theorem Oper.acw {ops:Array Oper} {suf:List Oper} {o:Oper} {a:Act} {w:World} {K:Act->World->Prop} (h:o.wp P a w K (Qs P Q ops suf)):o.wp P a w K Q:=by
 unfold Oper.wp at *
 generalize (execOp a.eval o).run P w=r at *
 cases r with
 |ok n w' =>
  cases n <;> simp only[Oper.upon]at h ⊢ <;>
   first
    |exact h
    |exact Calls.mono h (λe w'' he=>by cases e <;> exact he)
 |halt x w'=>cases x <;> simp only[Oper.upon]at h ⊢ <;> exact h
def DK (l:List Oper):Bool:=l.all λo=>o.guard.isNone
theorem Nz {l:List Oper} (h:DK l=true) {i:Nat} {o:Oper} (ho:l[i]? = some o):o.guard=none:=by
 have:=List.all_eq_true.1 h o (List.mem_of_getElem? ho)
 simpa using this
theorem Ie {ops:Array Oper} {i:Nat} {o:Oper} {K:Act->World->Prop} {a:Act} {w:World} (ho:ops[i]? = some o) (hg:o.guard=none):wpOp P ops Q i K a w↔(o.wp P a w K Q\/(o.asks P a w/\LetsOut Q)):=by
 unfold wpOp
 rw[ho]
 have hw:Region.wanted o (yielded ops a.tmps)=true:=by simp[Region.wanted,hg]
 simp only[hw,if_true]
def AL (ws:List (List Nat)) (m n:Nat):Bool:=((List.range n).all λi=>(ws.getD i []).all λj=>decide (j<i)) && ((List.range n).all λi=>decide (i<m) || TL ws i (List.range i))
theorem NN {ws:List (List Nat)} {e:Nat} {L:Array Bool} (h:TL ws e (List.range e)=true) (hcl:qO ws L) (hw:∀ j∈ws.getD e [],L.getD j false=true):∀ i,i<e->L.getD i false=true:=by
 have key:∀ n i,e - i<=n->i<e->L.getD i false=true:=by
  intro n
  induction n with
  |zero=>intro i hn hi;omega
  |succ n ih =>
   intro i hn hi
   have h2:=List.all_eq_true.1 h i (List.mem_range.2 hi)
   simp only[Bool.and_eq_true,decide_eq_true_eq,Bool.or_eq_true,List.any_eq_true,List.contains_iff_mem]at h2
   obtain⟨h3,h4|⟨m,hm,h5,h6⟩⟩:=h2
   · exact hw i h4
   · exact hcl m (ih m (by omega) (List.mem_range.1 hm)) i h6
 exact λi hi=>key _ i (Nat.le_refl _) hi
theorem DL {ops:Array Oper} {i:Nat} {o:Oper} (ho:ops[i]? = some o):(eZ ops).getD i []=(o.after.toList.filter (Region.binds .any)).map (·.on):=by
 simp[eZ,List.getD,ho]
theorem qI {ops:Array Oper} {L:Array Bool} {i:Nat} (hs:L.size=ops.size):i∈Region.ready .any ops L↔i<ops.size/\L.getD i false=false/\∀ j∈(eZ ops).getD i [],L.getD j false=true:=by
 rw[mem_ready]
 constructor
 · rintro⟨h1,o,ho,h2⟩
   have hi:i<ops.size:=(Array.getElem?_eq_some_iff.1 ho).1
   refine⟨hi,?_,λj hj => ?_⟩
   · simp only[Array.getD,hs,hi,dite_true]at h1 ⊢;exact h1
   · rw[DL ho]at hj
     obtain⟨e,he,rfl⟩:=List.mem_map.1 hj
     obtain⟨he1,he2⟩:=List.mem_filter.1 he
     exact h2 e (by simpa using he1) he2
 · rintro⟨hi,h1,h2⟩
   refine⟨by simp only[Array.getD,hs,hi,dite_true]at h1 ⊢;exact h1,ops[i],by simp[hi],λe he hb=>h2 e.on ?_⟩
   rw[DL (o:=ops[i]) (by simp[hi])]
   exact List.mem_map.2 ⟨e,List.mem_filter.2 ⟨by simpa using he,hb⟩,rfl⟩
theorem Yy {ws:List (List Nat)} {L:Array Bool} {i:Nat} (h:qO ws L) (hw:∀ j∈ws.getD i [],L.getD j false=true):qO ws (L.setIfInBounds i true):=λj hj k hk=>by
 by_cases e:k=i
 · subst e
   by_cases hl:k<L.size
   · simp[Array.getD,hl]
   · have:L.setIfInBounds k true=L:=Array.setIfInBounds_eq_of_size_le (by omega)
     rw[this]at hj ⊢;exact h j hj k hk
 · rw[getD_set_ne false (λx=>e x.symm)]
   by_cases e2:j=i
   · subst e2;exact hw k hk
   · rw[getD_set_ne false (λx=>e2 x.symm)]at hj;exact h j hj k hk
theorem XD {l:List Oper} {m:Nat} (hsp:AL (eZ l.toArray) m l.length=true) (hg:DK l=true):∀ (r:List Oper) (p f:Nat) (L:Array Bool) (a:Act) (x:World),p+r.length=l.length->m<=p->l.drop p=r->r.length<=f->L.size=l.length->(∀ j,j<l.length->L.getD j false=decide (j<p))->wpList P l.toArray Q r a x->wpAny P .any l.toArray Q f L a x:=by
 simp only[AL,Bool.and_eq_true]at hsp
 obtain⟨hlt,hbe⟩:=hsp
 intro r
 induction r with
 |nil =>
  intro p f L a x hp hm hd hf hL hl h
  have hr:Region.ready .any l.toArray L=[]:=List.eq_nil_iff_forall_not_mem.2 λi hi=>by
   obtain⟨h1,h2,-⟩:=(qI (by simpa using hL)).1 hi
   simp only[List.size_toArray]at h1
   rw[hl i h1]at h2
   simp at hp h2;omega
  cases f with
  |zero=>exact⟨hr,h⟩
  |succ f=>exact⟨λ_=>h,λi hi=>by rw[hr]at hi;cases hi⟩
 |cons o r ih =>
  intro p f L a x hp hm hd hf hL hl h
  simp only[List.length_cons]at hp hf
  obtain⟨f,rfl⟩:∃ f',f=f'+1:=⟨f - 1,by omega⟩
  have hpl:p<l.length:=by omega
  have hop:l[p]? = some o:=by
   have:=congrArg List.head? hd
   rw[List.head?_drop]at this;simpa using this
  have hgo:=Nz hg hop
  have hcl:qO (eZ l.toArray) L:=λj hj k hk=>by
   have hjl:j<l.length:=by
    rcases Nat.lt_or_ge j l.length with h|h
    · exact h
    · simp[Array.getD,hL,Nat.not_lt.2 h]at hj
   have h1:=List.all_eq_true.1 (List.all_eq_true.1 hlt j (List.mem_range.2 hjl)) k hk
   simp only[decide_eq_true_eq]at h1
   rw[hl j hjl]at hj
   rw[hl k (by omega)]
   simp at hj ⊢;omega
  have We:p∈Region.ready .any l.toArray L:=(qI (by simpa using hL)).2 ⟨by simpa using hpl,by rw[hl p hpl];simp,λj hj=>by
   have h1:=List.all_eq_true.1 (List.all_eq_true.1 hlt p (List.mem_range.2 hpl)) j hj
   simp only[decide_eq_true_eq]at h1
   rw[hl j (by omega)];simpa using h1⟩
  refine⟨λhe=>(by rw[he]at We;cases We),λi hi => ?_⟩
  have hie:i=p:=by
   obtain⟨h1,h2,h3⟩:=(qI (by simpa using hL)).1 hi
   simp only[List.size_toArray]at h1
   rw[hl i h1]at h2
   simp only[decide_eq_false_iff_not]at h2
   rcases Nat.lt_or_ge p i with h4|h4
   · exfalso
     have h5:=List.all_eq_true.1 hbe i (List.mem_range.2 h1)
     simp only[Bool.or_eq_true,decide_eq_true_eq]at h5
     rcases h5 with h5|h5
     · omega
     · have:=NN h5 hcl h3 p h4
       rw[hl p hpl]at this;simp at this
   · omega
  subst hie
  rw[Ie (by simpa using hop) hgo]
  have h':=h
  rw[wpList]at h'
  have hw:Region.wanted o (yielded l.toArray a.tmps)=true:=by simp[Region.wanted,hgo]
  simp only[hw,if_true]at h'
  rcases h' with h' | h'
  · refine .inl (Oper.wp_mono (λa' w' hK => ?_) h')
    refine ih (i+1) f _ a' w' (by omega) (by omega) ?_ (by omega) (by simpa using hL) (λj hj => ?_) hK
    · have:=congrArg List.tail hd
      simpa[List.tail_drop]using this
    · by_cases e:j=i
      · subst e;simp[Array.getD,hL,hj]
      · rw[getD_set_ne false (λx=>e x.symm),hl j hj]
        by_cases h6:j<i
        · simp[h6];omega
        · simp[h6];omega
  · exact .inr h'
theorem XY {pre suf:List Oper} {a:Act} {w:World} (hsp:AL (eZ (pre ++ suf).toArray) pre.length (pre ++ suf).length=true) (hg:DK (pre ++ suf)=true)
 (h:wpAny P .any pre.toArray (Qs P Q (pre ++ suf).toArray suf) pre.toArray.size (Array.replicate pre.toArray.size false) a w):wpAny P .any (pre ++ suf).toArray Q (pre ++ suf).toArray.size (Array.replicate (pre ++ suf).toArray.size false) a w:=by
 have TM:=hsp
 simp only[AL,Bool.and_eq_true]at TM
 obtain⟨hlt,hbe⟩:=TM
 have hln:(pre ++ suf).length=pre.length+suf.length:=List.length_append
 have hge:∀ i,i<pre.length->(pre ++ suf)[i]? = pre[i]? := λi hi=>List.getElem?_append_left hi
 have Mt:∀ i,i<pre.length->(eZ (pre ++ suf).toArray).getD i []=(eZ pre.toArray).getD i []:=λi hi=>by
  have h1:pre[i]? = some pre[i]:=List.getElem?_eq_getElem hi
  rw[DL (o:=pre[i]) (by simpa using(hge i hi).trans h1),DL (o:=pre[i]) (by simp)]
 have key:∀ (fuel:Nat) (La L:Array Bool) (a:Act) (x:World),La.size=pre.length->L.size=(pre ++ suf).length->(∀ j,j<pre.length->La.getD j false=L.getD j false)->(∀ j,pre.length<=j->L.getD j false=false)->qO (eZ (pre ++ suf).toArray) L ->
  wpAny P .any pre.toArray (Qs P Q (pre ++ suf).toArray suf) fuel La a x->wpAny P .any (pre ++ suf).toArray Q (fuel+suf.length) L a x:=by
  intro fuel
  have hmin:∀ (La L:Array Bool),La.size=pre.length->L.size=(pre ++ suf).length->(∀ j,j<pre.length->La.getD j false=L.getD j false)->(∃ j,j<pre.length/\L.getD j false=false)->∃ i,i∈Region.ready .any pre.toArray La:=by
   intro La L h1 h2 h3 hj
   obtain⟨j,hj⟩:=hj
   have:∀ n j,j<n->j<pre.length->L.getD j false=false->∃ i,i∈Region.ready .any pre.toArray La:=by
    intro n
    induction n with
    |zero=>intro j hn;omega
    |succ n ih =>
     intro j hn hj hf
     by_cases hall:∀ k,k<j->L.getD k false=true
     · refine⟨j,(qI (by simpa using h1)).2 ⟨by simpa using hj,by rw[h3 j hj];exact hf,λk hk => ?_⟩⟩
       rw[← Mt j hj]at hk
       have h4:=List.all_eq_true.1 (List.all_eq_true.1 hlt j (List.mem_range.2 (by omega))) k hk
       simp only[decide_eq_true_eq]at h4
       rw[h3 k (by omega)];exact hall k h4
     · simp only[Classical.not_forall]at hall
       obtain⟨k,hk,bW⟩:=hall
       exact ih k (by omega) (by omega) (by simpa using bW)
   exact this (j+1) j (by omega) hj.1 hj.2
  have hdone:∀ (f:Nat) (L:Array Bool) (a:Act) (x:World),suf.length<=f->L.size=(pre ++ suf).length->(∀ j,j<pre.length->L.getD j false=true)->(∀ j,pre.length<=j->L.getD j false=false)->wpList P (pre ++ suf).toArray Q suf a x->wpAny P .any (pre ++ suf).toArray Q f L a x:=λf L a x hf hL h1 h2 h=>by
   refine XD hsp hg suf pre.length f L a x hln.symm (Nat.le_refl _) (by simp) hf hL (λj hj => ?_) h
   rcases Nat.lt_or_ge j pre.length with h3|h3
   · rw[h1 j h3];simp[h3]
   · rw[h2 j h3];simp;omega
  induction fuel with
  |zero =>
   intro La L a x rU hL he hz hcl h
   refine hdone _ L a x (by omega) hL (λj hj => ?_) hz h.2
   cases hv:L.getD j false with
   |true=>rfl
   |false =>
    obtain⟨i,hi⟩:=hmin La L rU hL he ⟨j,hj,hv⟩
    rw[h.1]at hi;cases hi
  |succ fuel ih =>
   intro La L a x rU hL he hz hcl h
   by_cases hall:∀ j,j<pre.length->L.getD j false=true
   · refine hdone _ L a x (by omega) hL hall hz (h.1 (List.eq_nil_iff_forall_not_mem.2 λi hi => ?_))
     obtain⟨h1,h2,-⟩:=(qI (by simpa using rU)).1 hi
     simp only[List.size_toArray]at h1
     rw[he i h1,hall i h1]at h2;cases h2
   · simp only[Classical.not_forall]at hall
     obtain⟨j,hj,GK⟩:=hall
     have GK:L.getD j false=false:=by simpa using GK
     rw[show fuel+1+suf.length=(fuel+suf.length)+1 by omega]
     refine⟨λhr => ?_,λi hi => ?_⟩
     · exfalso
       obtain⟨i,hi⟩:=hmin La L rU hL he ⟨j,hj,GK⟩
       obtain⟨h1,h2,h3⟩:=(qI (by simpa using rU)).1 hi
       simp only[List.size_toArray]at h1
       have:i∈Region.ready .any (pre ++ suf).toArray L:=(qI (by simpa using hL)).2 ⟨by simp;omega,by rw[← he i h1];exact h2,λk hk=>by
        rw[Mt i h1]at hk
        have h4:=h3 k hk
        rcases Nat.lt_or_ge k pre.length with h5|h5
        · rw[← he k h5];exact h4
        · simp[Array.getD,rU,Nat.not_lt.2 h5]at h4⟩
       rw[hr]at this;cases this
     · obtain⟨h1,h2,h3⟩:=(qI (by simpa using hL)).1 hi
       simp only[List.size_toArray]at h1
       have him:i<pre.length:=by
        rcases Nat.lt_or_ge i pre.length with h4|h4
        · exact h4
        · exfalso
          have h5:=List.all_eq_true.1 hbe i (List.mem_range.2 h1)
          simp only[Bool.or_eq_true,decide_eq_true_eq]at h5
          rcases h5 with h5|h5
          · omega
          · have:=NN h5 hcl h3 j (by omega)
            rw[GK]at this;cases this
       have hir:i∈Region.ready .any pre.toArray La:=(qI (by simpa using rU)).2 ⟨by simpa using him,by rw[he i him];exact h2,λk hk=>by
        rw[← Mt i him]at hk
        have h4:=List.all_eq_true.1 (List.all_eq_true.1 hlt i (List.mem_range.2 h1)) k hk
        simp only[decide_eq_true_eq]at h4
        rw[he k (by omega)];exact h3 k hk⟩
       have hp:=h.2 i hir
       have hpo:pre[i]? = some pre[i]:=List.getElem?_eq_getElem him
       have hlo:(pre ++ suf)[i]? = some pre[i]:=(hge i him).trans hpo
       have hgo:=Nz hg hlo
       rw[Ie (o:=pre[i]) (by simp) hgo]at hp
       rw[Ie (by simpa using hlo) hgo]
       rcases hp with hp|⟨hp1,hp2⟩
       · refine .inl (Oper.wp_mono (λa' w' hK => ?_) (Oper.acw hp))
         refine ih (La.setIfInBounds i true) (L.setIfInBounds i true) a' w' (by simpa using rU) (by simpa using hL) (λk hk => ?_) (λk hk => ?_) (Yy hcl h3) hK
         · by_cases e:k=i
           · subst e;simp[Array.getD,rU,hL,hk];omega
           · rw[getD_set_ne false (λx=>e x.symm),getD_set_ne false (λx=>e x.symm)];exact he k hk
         · rw[getD_set_ne false (by omega)];exact hz k hk
       · exact .inr ⟨hp1,Yx hp2⟩
 have hf:∀ n j,(Array.replicate n false).getD j false=false:=by
  intro n j
  by_cases hj:j<n <;> simp[Array.getD,hj]
 have:=key pre.toArray.size (Array.replicate pre.toArray.size false) (Array.replicate (pre ++ suf).toArray.size false) a w (by simp) (by simp) (λj _=>by rw[hf,hf]) (λj _=>hf _ j) (λj hj=>by rw[hf]at hj;cases hj) h
 rw[show(pre ++ suf).toArray.size=pre.toArray.size+suf.length by simp]at this ⊢
 exact this
theorem wgt {id:Nat} {a:Act} {w:World} {l:List Oper} (m:Nat) (N:Nat) (ds:List (Option Tmp)) (ns:List (List Nat)) (T:List Nat) (Ss:List Sp) (ru:AS ((Ss.map Sp.k).filterMap Kd.zero) T 0 Ss) (hR0:∀ i R iv z t,(Ss.map Sp.k).getD i .op = .rs R iv z t->R<w.drew.heap.size/\w.drew.heap[R]? = some (.cells z t (0,0)))
 (hstep:lJ (tH P ds (eZ (l.take m).toArray) ns T Ss w.drew a) 0 (l.take m))
 (hend:∀ (vs:Nat->Value) (x:World),GE T Ss w.drew vs x->wpList P l.toArray Q (l.drop m) (ai ds (λj=>sv (Ss.getD j .n) (vs j)) (rg 0 ds) a) x)
 (hm:P.follows .mixedOrders=true:=by kernel_rfl) (hN:a.tmps.size=N:=by rfl) (hok:iR N (l.take m).toArray ds (eZ (l.take m).toArray) ns []=true:=by kernel_rfl) (hkd:Fu (eZ (l.take m).toArray) (nE T Ss.length) (Ss.map Sp.k)=true:=by kernel_rfl) (hlen:(Ss.map Sp.k).length=(l.take m).length:=by rfl) (hr:rg 0 ds=List.range (l.take m).length:=by rfl) (hc:rT T Ss=true:=by kernel_rfl)
 (hsp:AL (eZ l.toArray) m l.length=true:=by kernel_rfl) (hg:DK l=true:=by kernel_rfl) (zR:(l.take m).length=m:=by rfl):(Code.region id l.toArray true).wp P Q a w:=by
 refine wp_region_any hm ?_
 have hl:l.take m ++ l.drop m=l:=List.take_append_drop m l
 have h1:=XY (P:=P) (Q:=Q) (pre:=l.take m) (suf:=l.drop m) (a:=a) (w:=w.drew) (by rw[hl,zR];exact hsp) (by rw[hl];exact hg) (by
  refine NL N ds (eZ (l.take m).toArray) ns (nE T Ss.length) (Ss.map Sp.k) (Ss.map Sp.P) hN hok hkd hlen (uP Ss) (by have:=ru.all;rwa[← List.range_eq_range']at this) hR0 (Dk (λ_ _ h=>h.s) _ _ hstep) λvs x h => ?_
  have h1:=GE.of h hc
  have h2:=hend vs x h1
  rw[hl]
  rwa[hr,Ad _ _ λj _=>h1.c j]at h2)
 rw[hl]at h1
 exact h1
end
end
section
open Go.RowKit Go.Instr
attribute [local go_sem ↓] qH
theorem j4 {w:World} {X:Nat} {c0 c1 c2 c3 c4:Value} {t:TypeId} (h:w.heap[X]? = some (.cells #[c0,c1,c2,c3,c4] t (0,0))):(w.cell? ⟨X,0,none⟩=some c0/\w.cell? ⟨X,1,none⟩=some c1)/\w.cell? ⟨X,2,none⟩=some c2/\w.cell? ⟨X,3,none⟩=some c3/\w.cell? ⟨X,4,none⟩=some c4:=by
 simp[World.cell?,h]
theorem Rs {op:Int} (h0:0<=op) (h1:op<35) (xs:List Int):(wX (lZ op) xs).length<=10:=by
 have key:∀ cs xs,(wX cs xs).length<=(cs.map iJ).sum:=by
  intro cs
  induction cs with
  |nil=>intro xs;cases xs <;> simp[wX]
  |cons c cs ih =>
   intro xs
   cases xs with
   |nil=>simp[wX]
   |cons x xs=>have:=ih xs;simp only[wX,List.length_append,aF,List.map_cons,List.sum_cons];omega
 refine Nat.le_trans (key _ _) ?_
 rcases Sg h0 h1 with rfl|rfl|rfl|rfl|rfl|rfl|rfl|rfl|rfl|rfl|rfl|rfl|rfl|rfl|rfl|rfl|rfl|rfl|rfl|rfl|rfl|rfl|rfl|rfl|rfl|rfl|rfl|rfl|rfl|rfl|rfl|rfl|rfl|rfl|rfl <;> decide
theorem Rt {i:Ins} (h0:0<=i.op) (h1:i.op<35):(wI i).length<=11:=by
 have:=Rs h0 h1 (qE i)
 simp only[wI,List.length_append,aF];omega
def iF (l:List Ins) (k:Nat):List Int:=ah l.length 4 ++ (l.take k).flatMap wI
theorem Oz (l:List Ins) (k:Nat) (h:k<l.length):iF l (k+1)=iF l k ++ ([l[k].op % 256] ++ wX (lZ l[k].op) (qE l[k])):=by
 unfold iF
 rw[List.take_succ_eq_append_getElem h,List.flatMap_append,List.append_assoc]
 simp[wI,ah]
theorem Z9 (l:List Ins) (k:Nat) (hv:∀ i∈l,i.gF=true/\CB i):(iF l k).length<=4+11 * k:=by
 induction k with
 |zero=>simp[iF,aF]
 |succ k ih =>
  rcases Nat.lt_or_ge k l.length with h|h
  · rw[Oz l k h]
    have hi:=hv _ (List.getElem_mem h)
    have lD:l[k].op<35:=by
     have:=hi.1
     simp only[Ins.gF,Bool.and_eq_true,decide_eq_true_eq]at this
     exact this.1
    have:=Rs hi.2.1 lD (qE l[k])
    simp only[List.length_append,List.length_cons,List.length_nil];omega
  · have:iF l (k+1)=iF l k:=by unfold iF;rw[List.take_of_length_le (by omega),List.take_of_length_le h]
    rw[this];omega
theorem _d (l:List Ins):iF l l.length=wA l:=by unfold iF wA;rw[List.take_length]
theorem abO {o:Nat} (h:o<35):((o:Int)) % 256=o:=by omega
theorem abP (xs:List Int):wX [] xs=[]:=by cases xs <;> rfl
theorem aaR (cs xs:List Int) (j:Nat) (h:j<cs.length) (h':j<xs.length):wX (cs.drop j) (xs.drop j)=ah xs[j] (iJ cs[j]) ++ wX (cs.drop (j+1)) (xs.drop (j+1)):=by
 rw[List.drop_eq_getElem_cons h,List.drop_eq_getElem_cons h'];rfl
theorem Ea {w:World} {X:Nat} {a b c d:Int} {t:TypeId} (h:w.heap[X]? = some (.cells #[.int .i64 a,.int .i64 b,.int .i64 c,.int .i64 d] t (0,0))) {j:Nat} (hj:j<4):w.cell? ⟨X,j,none⟩=some (.int .i64 ([a,b,c,d].getD j 0)):=by
 rcases(by omega:j=0\/j=1\/j=2\/j=3)with rfl|rfl|rfl|rfl <;> simp[World.cell?,h]
def K9 (w:World) (l:List Ins) (e:Ending) (w':World):Prop:=(jc l≠0/\e = .returned (.tuple #[.slice none 0 0,.int .i64 (jc l)])/\Grow w w')\/(jc l=0/\∃ a c,e = .returned (.tuple #[.slice a (wA l).length c,.int .i64 0])/\eu w' w.heap.size (.slice a (wA l).length c) (wA l)/\Grow w w')
theorem bq.new {w w':World} (h:bq w.heap.size w w'):Grow w w':=h.mono λb e=>by
 obtain⟨h1,cs,z,h2⟩:=e
 have:=lt_of_block h2
 omega
set_option maxRecDepth 100000 in
set_option maxHeartbeats 12800000 in
theorem Pq (v:Value) (l:List Ins) (w:World) (h:aB 5 Ins.cells w v l) (hb:∀ i∈l,CB i) (ht:cZ w):Calls Tryz.prog 22 #[v] w (K9 w l):=by
 obtain⟨va,vc,rfl,-,Fs⟩:=h.form
 have Gx:=Lib.hid (Yv _ l w h hb ht)
 have HR:=Lib.hid h
 have HE:=Lib.hid (show ∀ e w',K9 w l e w'=((jc l≠0/\e = .returned (.tuple #[.slice none 0 0,.int .i64 (jc l)])/\Grow w w')\/(jc l=0/\∃ a c,e = .returned (.tuple #[.slice a (wA l).length c,.int .i64 0])/\eu w' w.heap.size (.slice a (wA l).length c) (wA l)/\Grow w w'))from λ_ _=>rfl)
 have HV:=Lib.hid (show jc l=0->l.length<=65536/\∀ i∈l,i.gF=true/\CB i from λe=>by
  unfold jc at e
  split at e
  · cases e
  · rename_i h1
    split at e
    · rename_i h2
      exact⟨by omega,λi hi=>⟨List.all_eq_true.1 h2 i hi,hb i hi⟩⟩
    · cases e)
 generalize jc l=AC at *
 generalize K9 w l=EG at *
 clear h hb ht
 go_enter Tryz.func22,Tryz.ntmps22
 go_wp2_with fail
 refine Gx.out.mono ?_
 rintro e w1 ⟨rfl,hg⟩
 have aP:=Lib.hid hg
 clear hg Gx
 by_cases hac:AC=0
 case neg =>
  have d0:(AC != 0)=true:=by simpa using hac
  have d1:(AC == 0)=false:=by simpa using hac
  have HQ:=Lib.hid hac
  clear hac
  go_wp2_with fail
  rw[HE.out]
  exact .inl ⟨HQ.out,rfl,aP.out⟩
 obtain⟨hl,hv⟩:=HV.out hac
 have HVA:=Lib.hid hv
 have Wh:=Lib.hid (λk (hk:k<=l.length)=>show(iF l k).length<=800000 from by have:=Z9 l k hv;omega)
 have uI:=Lib.hid (Qp w.heap.size (.slice none 0 0) [] l.length 4 w1 (World.ownsRow_nil _ _ _ _) aP.out.size (by simp) (by decide))
 subst hac
 clear hv HV
 go_wp2_with fail
 refine uI.out.mono ?_
 rintro e w2 ⟨a2,c2,rfl,hr2,hm2⟩
 have HR2:=Lib.hid (show eu w2 w.heap.size (.slice a2 (iF l 0).length c2) (iF l 0)from by simpa[iF]using hr2)
 have rR:=Lib.hid ((bq.grow aP.out:bq w.heap.size w w1).trans hm2)
 have TN:([] ++ ah (l.length:Int) 4).length=(iF l 0).length:=by simp[iF]
 clear hr2 hm2 uI
 rw[TN]
 clear TN
 go_wp2_with fail
 go_loopw [5,21] (λbv t wr=>∃ (k:Nat) (pa:Option Addr) (pc:Nat),t = .int .i64 k/\k<=l.length/\bv = .slice pa (iF l k).length pc/\eu wr w.heap.size (.slice pa (iF l k).length pc) (iF l k)/\bq w.heap.size w wr) (λ_ t _=>l.length - (intOf t).toNat)
 case atStart=>exact⟨0,a2,c2,rfl,Nat.zero_le _,rfl,HR2.out,rR.out⟩
 obtain⟨k,pa,pc,rfl,hk,rfl,hrow,hmv⟩:=hrel
 have iE:=Lib.hid hrow
 have fP:=Lib.hid hmv
 clear hrow hmv HR2 rR
 by_cases hlt:k<l.length
 · have hkk:(k:Int)<(l.length:Nat):=by omega
   obtain⟨b0,off,cap',e,_,hcc⟩:=(HR.out.later fP.out.new).at hlt
   simp only[Value.slice.injEq,true_and]at e
   obtain⟨rfl,rfl⟩:=e
   have s0:=hcc 0 _ rfl
   have s1:=hcc 1 _ rfl
   have s2:=hcc 2 _ rfl
   have s3:=hcc 3 _ rfl
   have s4:=hcc 4 _ rfl
   simp only[Nat.add_zero]at s0
   have hbx:=World.block_lt_of_cell? wr _ s0
   have Mw:=HVA.out l[k] (List.getElem_mem _)
   have lD:l[k].op<35:=by
    have:=Mw.1
    simp only[Ins.gF,Bool.and_eq_true,decide_eq_true_eq]at this
    exact this.1
   have GL:=Lib.hid (Oz l k hlt)
   have zL:=Lib.hid (Wh.out k hk)
   have adC:=Lib.hid (Wh.out (k+1) (by omega))
   have hop:=Mw.2.1
   clear hcc Mw
   generalize hTe:iF l (k+1)=gq at *
   have xy:=Lib.hid hTe
   clear hTe
   generalize iF l k=rE at *
   generalize l[k]=i at *
   obtain⟨op,a,b,c,d⟩:=i
   simp only at lD hop s0 s1 s2 s3 s4
   obtain⟨o,rfl⟩:∃ o:Nat,op=o:=⟨op.toNat,by omega⟩
   have ho:o<35:=by omega
   have qA:=Lib.hid (λx=>Ny o x ho)
   have Mx:=Lib.hid (show lZ (o:Int)=cK (ug.getD o ⟨#[]⟩)from by simp[lZ])
   have hc4:=(Jg hop lD).2
   rw[Mx.out,qJ]at hc4
   have MB:=Lib.hid hc4
   have adD:=Lib.hid (show gq=rE ++ [(o:Int)] ++ wX (cK (ug.getD o ⟨#[]⟩)) [a,b,c,d]from by rw[GL.out,← Mx.out,abO ho];simp[qE])
   clear GL Mx hc4
   generalize ug.getD o ⟨#[]⟩=cs at *
   have HB1:=Lib.hid (heap_alloc_new wr (.cells #[.int .u8 o,.int .i64 a,.int .i64 b,.int .i64 c,.int .i64 d] 69))
   have hg1:Grow wr (wr.alloc (.cells #[.int .u8 o,.int .i64 a,.int .i64 b,.int .i64 c,.int .i64 d] 69)):=(Mv.refl _ _).alloc _
   have hg2:Grow wr ((wr.alloc (.cells #[.int .u8 o,.int .i64 a,.int .i64 b,.int .i64 c,.int .i64 d] 69)).alloc (.cells #[.int .u8 o] 5)):=hg1.alloc _
   have hb2:=heap_alloc_new (wr.alloc (.cells #[.int .u8 o,.int .i64 a,.int .i64 b,.int .i64 c,.int .i64 d] 69)) (.cells #[.int .u8 o] 5)
   rw[World.size_alloc]at hb2
   have hle0:=zL.out
   obtain⟨a',c',w3,⟨hok,iI,haw⟩,hr3,dR,-⟩:=nL Tryz.yf (f:=aL) mF (.slice pa rE.length pc) (.slice (some ⟨wr.heap.size+1,0,none⟩) 1 1) rE [(o:Int)] w.heap.size _ (fQ iE.out hg2 (λ_ _ e=>e)) (aB.gW (f:=aL) (l:=[(o:Int)]) mF hb2 (by simp[flat,aL]) (Nat.le_of_ble_eq_true rfl)) (λy hy u hu=>by simp at hy;subst hy;simp[aL]at hu;subst hu;rfl) (by have:=fP.out.size;simp;omega) (by simp;omega)
   have HR3:=Lib.hid (show eu w3 w.heap.size (.slice a' (rE.length+1) c') (rE ++ [(o:Int)])from hr3)
   have Lb:=bq.own (fQ iE.out hg2 (λ_ _ e=>e)) dR
   have jN:=Lib.hid ((fP.out.trans (bq.grow hg2)).trans Lb)
   have HB3:=Lib.hid (Lb.keep (aJ HB1.out ((Mv.refl _ _).alloc _)) (by decide))
   have GM:=Lib.hid (show rE.length+1=(rE ++ [(o:Int)]).length from by simp)
   clear hr3 dR Lb hg1 hg2 hb2 hle0 HB1
   go_wp2_with fail
   clear hok iI haw
   rw[GM.out]at HR3 ⊢
   have hle3:(rE ++ [(o:Int)]).length<=800010:=by have:=zL.out;simp;omega
   generalize rE ++ [(o:Int)]=adE at *
   have HK:=Lib.hid (λ(y:World) (hy:Grow w3 y)=>aJ HB3.out hy)
   refine wg 52 [some 30,some 31,some 32,some 33,some 34,some 9,some 8,none] [[],[0],[1],[],[3],[],[2],[5,4]] [] [.c (.pointer (some ⟨wr.heap.size,0,none⟩)),.c (.int .u8 o),.c (.string cs),.c (.agg #[.int .u8 o,.int .i64 a,.int .i64 b,.int .i64 c,.int .i64 d]),.c (.agg #[.int .i64 a,.int .i64 b,.int .i64 c,.int .i64 d]),.al 7 4 #[.int .i64 0,.int .i64 0,.int .i64 0,.int .i64 0] 98,.c (.string cs),.st 5] trivial (Wd rfl) ?steps ?done
   case steps =>
    refine⟨?s0,?s1,?s2,?s3,?s4,?s5,?s6,?s7,trivial⟩
    case s0 =>
     refine oo (λvs x hP => ?_)
     simp only[zS]
     go_simp
     exact gc
    case s1 =>
     refine ok HK (λvs x hG HX hP => ?_)
     obtain⟨⟨i0,i1⟩,i2,i3,i4⟩:=j4 HX.out
     simp only[zS]
     go_simp
     exact gc
    case s2 =>
     refine ok HK (λvs x hG HX hP => ?_)
     have HC:=Lib.hid (qA.out x)
     simp only[zS]
     go_simp
     refine(HC.out).mono ?_
     rintro e y ⟨rfl,rfl⟩
     exact⟨_,rfl,K7 (Mv.refl _ _) rfl⟩
    case s3 =>
     refine ok HK (λvs x hG HX hP => ?_)
     obtain⟨⟨i0,i1⟩,i2,i3,i4⟩:=j4 HX.out
     simp only[zS]
     go_simp
     exact gc
    case s4 =>
     refine ok HK (λvs x hG HX hP => ?_)
     have HC:=Lib.hid (XA ⟨o,a,b,c,d⟩ x)
     simp only[zS]
     go_simp
     refine(HC.out).mono ?_
     rintro e y ⟨rfl,hg⟩
     exact⟨_,rfl,K7 hg rfl⟩
    case s5 =>
     refine oz (λvs x => ?_)
     simp only[zS]
     go_simp
     exact⟨rfl,rfl⟩
    case s6 =>
     refine oo (λvs x hP => ?_)
     simp only[zS]
     go_simp
     exact gc
    case s7 =>
     refine os (λvs x g hg hb hv => ?_)
     have h4:vs 4 = .agg #[.int .i64 a,.int .i64 b,.int .i64 c,.int .i64 d]:=hv
     obtain⟨c0,c1,c2,c3⟩:=gu hb
     have zt:=gN hb
     simp only[zS,hg,h4]
     go_simp
     exact⟨(wM hb _ _ _ _).1,(wM hb _ _ _ _).2⟩
   case done =>
   intro vs w5 hE
   have hG:=hE.grow
   obtain⟨g5,a5,l5,m5,b5⟩:=hE.box 5
   simp only[zS,Nat.reduceAdd,a5]
   have jB:=Lib.hid hG
   have GN:=Lib.hid b5
   simp only[zS,lM]at GN
   have HR5:=Lib.hid (fQ HR3.out jB.out (λ_ _ e=>e))
   have CG:=Lib.hid (jN.out.trans (bq.grow jB.out))
   have ag4:=lt_of_block GN.out
   clear hE hG b5 HK HB3 HR3 jN
   go_wp2_with fail
   go_loopw [5,37] (λbv t wr=>∃ (j:Nat) (pre:List Int) (qa:Option Addr) (qc:Nat),t = .int .i64 j/\j<=cs.size/\bv = .slice qa pre.length qc/\pre ++ wX ((cK cs).drop j) ([a,b,c,d].drop j)=gq/\eu wr w.heap.size (.slice qa pre.length qc) pre/\bq w.heap.size w5 wr) (λ_ t _=>cs.size - (intOf t).toNat)
   case atStart=>exact⟨0,adE,a',c',rfl,Nat.zero_le _,rfl,by rw[adD.out];rfl,HR5.out,bq.refl _⟩
   obtain⟨j,pre,qa,qc,rfl,hj,rfl,htot,hrow,hmv⟩:=hrel
   have nG:=Lib.hid hrow
   have oP:=Lib.hid hmv
   have GQ:=Lib.hid htot
   have hpl:pre.length<=800000:=by have h1:=adC.out;have h2:=congrArg List.length htot;rw[List.length_append]at h2;omega
   clear hrow hmv htot
   by_cases hjs:j<cs.size
   · have hjk:(j:Int)<(cs.size:Nat):=by omega
     have iY:j<4:=by have:=MB.out;omega
     have GU:=Lib.hid iY
     have CJ:=Lib.hid hjs
     have HST:=Lib.hid (aaR (cK cs) [a,b,c,d] j (by rw[qJ];exact hjs) (by simpa using iY))
     have BZ:(cK cs)[j]'(by rw[qJ];exact hjs)=(cs[j].toNat:Int):=by simp[cK];rfl
     rw[BZ]at HST
     have Wi:=Ea (oP.out.keep GN.out (by decide)) iY
     have CL:=Lib.hid (λ(y:World) (hy:Grow wr y)=>Ea (aJ (oP.out.keep GN.out (by decide)) hy) iY)
     generalize hxj:[a,b,c,d].getD j 0=xj at *
     have TP:([a,b,c,d])[j]'(by simpa using iY)=xj:=by rw[← hxj,List.getD_eq_getElem?_getD,List.getElem?_eq_getElem];rfl
     rw[TP]at HST
     generalize hcj:(cs[j].toNat:Int)=cj at *
     have nA:=Lib.hid hcj
     have uI:=Lib.hid (λ(y:World) (hy:Grow wr y)=>Qp w.heap.size (.slice qa pre.length qc) pre xj (iJ cj) y (fQ nG.out hy (λ_ _ e=>e)) (Nat.le_trans (Nat.le_trans CG.out.size oP.out.size) hy.size) (by omega) (by rcases IY cj with h|h|h <;> omega))
     have adF:=Lib.hid (show(pre ++ ah xj (iJ cj)) ++ wX ((cK cs).drop (j+1)) ([a,b,c,d].drop (j+1))=gq from by rw[← GQ.out,HST.out,List.append_assoc])
     clear BZ Wi hxj TP HST GQ hcj iY hpl hjs hj
     go_wp2_with fail
     refine wgt 8 52 [some 40,some 41,some 42,some 43,some 44,some 45,some 46,some 47] [[],[],[1],[2],[],[],[4,5],[6]] [] [.c (.slice qa pre.length qc),.c (.int .i64 (j:Nat)),.c (.pointer (some ⟨g5,j,none⟩)),.c (.int .i64 xj),.c (.string cs),.c (.int .i64 (j:Nat)),.c (.int .u8 cj),.c (.int .i64 (iJ cj))] trivial (Wd rfl) ?steps ?done
     case steps =>
      refine⟨?s0,?s1,?s2,?s3,?s4,?s5,?s6,?s7,trivial⟩
      case s0 =>
       refine oo (λvs x hP => ?_)
       simp only[zS]
       go_simp
       exact gc
      case s1 =>
       refine oo (λvs x hP => ?_)
       simp only[zS]
       go_simp
       exact gc
      case s2 =>
       refine ok CL (λvs x hG HX hP => ?_)
       have iY:(j:Int)<4:=by have:=GU.out;omega
       simp only[zS]
       go_simp
       exact gc
      case s3 =>
       refine ok CL (λvs x hG HX hP => ?_)
       have c0:=HX.out
       have hl0:=World.block_lt_of_cell? x _ c0
       simp only[zS]
       go_simp
       exact gc
      case s4 =>
       refine oo (λvs x hP => ?_)
       simp only[zS]
       go_simp
       exact gc
      case s5 =>
       refine oo (λvs x hP => ?_)
       simp only[zS]
       go_simp
       exact gc
      case s6 =>
       refine ok CL (λvs x hG HX hP => ?_)
       have hjs:=CJ.out
       simp only[zS]
       go_simp
       exact gc (congrArg (Value.int .u8) nA.out)
      case s7 =>
       refine ok CL (λvs x hG HX hP => ?_)
       have HC:=Lib.hid (Ox cj x)
       simp only[zS]
       go_simp
       refine(HC.out).mono ?_
       rintro e y ⟨rfl,rfl⟩
       exact⟨_,rfl,K7 (Mv.refl _ _) rfl⟩
     case done =>
     intro vs w6 hE
     have hG:=hE.grow
     have jh:=Lib.hid hG
     clear hE hG
     simp only[zS,Nat.reduceAdd,List.drop_succ_cons,List.drop_zero]
     go_wp2_with fail
     refine(uI.out _ jh.out).mono ?_
     rintro e w7 ⟨ra,rc,rfl,Gy,Wj⟩
     have CO:=Lib.hid Gy
     have zT:=Lib.hid ((oP.out.trans (bq.grow jh.out)).trans Wj)
     have iY:=GU.out
     clear Gy Wj uI CL nG oP
     go_wp2_with fail
     have hjs:=CJ.out
     go_roundw
     case rel=>exact⟨j+1,_,ra,rc,by go_num,by have:=CJ.out;omega,by simp,adF.out,CO.out,zT.out⟩
     case measure=>(have:=CJ.out;simp[intOf];omega)
   · obtain rfl:j=cs.size:=by omega
     have hjk:¬ ((cs.size:Int)<(cs.size:Nat)):=by omega
     have Wl:=Lib.hid (show pre=gq from by have h:=GQ.out;rw[List.drop_of_length_le (by rw[qJ];exact Nat.le_refl _)]at h;simpa[abP]using h)
     have HMZ:=Lib.hid (CG.out.trans oP.out)
     clear hpl GQ
     go_wp2_with fail
     go_roundw
     case rel=>exact⟨k+1,qa,qc,by go_num,by omega,by rw[xy.out,← Wl.out],by rw[xy.out,← Wl.out];exact nG.out,HMZ.out⟩
     case measure=>(simp[intOf] <;> omega)
 · obtain rfl:k=l.length:=by omega
   have HF:=Lib.hid (_d l)
   have hlt':¬ ((l.length:Int)<(l.length:Nat)):=by omega
   go_wp2_with fail
   rw[HE.out]
   exact .inr ⟨trivial,pa,pc,by rw[HF.out],by have:=iE.out;rwa[HF.out]at this,fP.out.new⟩
theorem EL {w:World} {X:Nat} {a b:Value} {t:TypeId} {z:Nat × Nat} (h:w.heap[X]? = some (.cells #[a,b] t z)):w.cell? ⟨X,0,none⟩=some a/\w.cell? ⟨X,1,none⟩=some b:=by simp[World.cell?,h]
theorem Kr {w:World} {X:Nat} {a b c:Value} {t:TypeId} {z:Nat × Nat} (h:w.heap[X]? = some (.cells #[a,b,c] t z)):w.cell? ⟨X,0,none⟩=some a/\w.cell? ⟨X,1,none⟩=some b/\w.cell? ⟨X,2,none⟩=some c:=by simp[World.cell?,h]
theorem gtr {a b c:World} (h:Grow a b) (k:Grow b c):Grow a c:=Mv.trans h k (λ_ e=>e.elim)
theorem y5 {w:World} {X:Nat} {a b c d e:Value} {t:TypeId} (h:w.heap[X]? = some (.cells #[a,b,c,d,e] t (0,0))) (p q r s u:Value) :
 (((((w.setCell ⟨X,0,none⟩ p).setCell ⟨X,1,none⟩ q).setCell ⟨X,2,none⟩ r).setCell ⟨X,3,none⟩ s).setCell ⟨X,4,none⟩ u).heap[X]? = some (.cells #[p,q,r,s,u] t (0,0))/\Mv (λb=>b=X) w (((((w.setCell ⟨X,0,none⟩ p).setCell ⟨X,1,none⟩ q).setCell ⟨X,2,none⟩ r).setCell ⟨X,3,none⟩ s).setCell ⟨X,4,none⟩ u):=by
 constructor
 · have h1:=block_setCell (p:=⟨X,0,none⟩) h rfl p
   have h2:=block_setCell (p:=⟨X,1,none⟩) h1 rfl q
   have h3:=block_setCell (p:=⟨X,2,none⟩) h2 rfl r
   have h4:=block_setCell (p:=⟨X,3,none⟩) h3 rfl s
   have h5:=block_setCell (p:=⟨X,4,none⟩) h4 rfl u
   simpa using h5
 · exact(((((Mv.refl (λb=>b=X) w).setCell (p:=⟨X,0,none⟩) (.inl rfl) p).setCell (p:=⟨X,1,none⟩) (.inl rfl) q).setCell (p:=⟨X,2,none⟩) (.inl rfl) r).setCell (p:=⟨X,3,none⟩) (.inl rfl) s).setCell (p:=⟨X,4,none⟩) (.inl rfl) u
theorem fE {w:World} {X:Nat} {c0 c1 c2 c3:Value} {t:TypeId} (h:w.heap[X]? = some (.cells #[c0,c1,c2,c3] t (0,0))):(w.cell? ⟨X,0,none⟩=some c0/\w.cell? ⟨X,1,none⟩=some c1)/\w.cell? ⟨X,2,none⟩=some c2/\w.cell? ⟨X,3,none⟩=some c3:=by simp[World.cell?,h]
end
end Go.Proofs.YtadecgbblajifaaGreatDoor
