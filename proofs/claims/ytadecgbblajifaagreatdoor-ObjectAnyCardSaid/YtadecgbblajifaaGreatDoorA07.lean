import Derived.Test.YtadecgbblajifaaGreatDoorA06
set_option linter.unusedSimpArgs false
set_option linter.unusedVariables false
set_option maxRecDepth 100000
set_option maxHeartbeats 25600000
namespace Go.Proofs.YtadecgbblajifaaGreatDoor
section
open Go.RowKit
def cv (Cs:List (Option Value)) (j:Nat):Value:=(Cs.getD j none).getD undef
def Qc (ws:List (List Nat)) (W:List Nat) (i s:Nat):Bool:=(List.range W.length).all λr => !(ws.getD i []).contains (W.getD r 0) || decide (r<s)
def Qd (ws:List (List Nat)) (W:List Nat) (i s:Nat):Bool:=decide (s<=W.length) && (List.range W.length).all λr => !((ws.getD (W.getD r 0) []).contains i) || decide (s<=r)
section
variable {P:Program} {Q:Exit->Act->World->Prop}
structure Xv (P:Program) (ds:List (Option Tmp)) (ws ns:List (List Nat)) (Cs:List (Option Value)) (W:List Nat) (M:Nat->World->Prop) (a:Act) (i:Nat) (o:Oper):Prop where
 c:W.contains i=false->∀ s x,Qc ws W i s=true->Qd ws W i s=true->M s x->Gives P o (aB ds (cv Cs) (ns.getD i []) a) x (λv y=>v=cv Cs i/\y=x)
 w:∀ r,r<W.length->W.getD r 0=i->∀ x,M r x->Gives P o (aB ds (cv Cs) (ns.getD i []) a) x (λ_ y=>M (r+1) y)
structure QI (Cs:List (Option Value)) (W:List Nat) (M:Nat->World->Prop) (L:Array Bool) (vs:Nat->Value) (x:World):Prop where
 st:∃ s,s<=W.length/\(∀ r,r<W.length->L.getD (W.getD r 0) false=decide (r<s))/\M s x
 val:∀ j,L.getD j false=true->∀ c,Cs.getD j none=some c->vs j=c
end
section
variable {P:Program} {ds:List (Option Tmp)} {ws ns:List (List Nat)} {Cs:List (Option Value)} {W:List Nat} {M:Nat->World->Prop} {a:Act} {i:Nat} {o:Oper}
theorem LA {W:List Nat} {i r:Nat} (hw:W.contains i=false) (hr:r<W.length) (e:W.getD r 0=i):False:=by
 have:W.contains i=true:=by rw[← e];simp[List.getD,hr]
 rw[hw]at this;cases this
theorem qc (h:∀ (x:World),Gives P o (aB ds (cv Cs) (ns.getD i []) a) x (λv y=>v=cv Cs i/\y=x)) (hw:W.contains i=false:=by kernel_rfl):Xv P ds ws ns Cs W M a i o :=
 ⟨λ_ _ x _ _ _=>h x,λ_ hr e=>(LA hw hr e).elim⟩
end
def Dn (P:Program) (R:Value->World->Prop) (X:List PanicEntry->World->Prop):Result Next->Prop
 |.ok (.enter f args) w'=>Calls P f args w' λe w''=>(∃ v,e = .returned v/\R v w'')\/(∃ ch,e = .panicked ch/\X ch w'')
 |r=>jO P R r
def kM (P:Program) (X:List PanicEntry->World->Prop) (o:Oper) (a:Act) (w:World) (R:Value->World->Prop):Prop:=Dn P R X ((execOp a.eval o).run P w)
theorem Gives.x {P:Program} {X:List PanicEntry->World->Prop} {o:Oper} {a:Act} {w:World} {R:Value->World->Prop} (h:Gives P o a w R):kM P X o a w R:=by
 unfold Gives at h;unfold kM;generalize (execOp a.eval o).run P w=r at *;cases r with
 |ok n w' =>
  cases n
  case enter f args=>exact Calls.mono h λe w'' he => .inl he
  all_goals exact h
 |halt x w'=>exact h.elim
theorem kM.mono {P:Program} {X:List PanicEntry->World->Prop} {o:Oper} {a:Act} {w:World} {R R':Value->World->Prop} (h:kM P X o a w R) (hr:∀ v w',R v w'->R' v w'):kM P X o a w R':=by
 unfold kM at h ⊢;generalize (execOp a.eval o).run P w=r at *;cases r with
 |ok n w' =>
  cases n <;> simp only[Dn,jO]at h ⊢
  case value v=>exact hr _ _ h
  case skip=>exact hr _ _ h
  case enter f args =>
   refine Calls.mono h λe w'' he => ?_;rcases he with⟨v,rfl,hv⟩|he
   · exact .inl ⟨v,rfl,hr _ _ hv⟩
   · exact .inr he
  case row row args=>exact Rows.mono h λv w'' hv=>hr _ _ hv
 |halt x w'=>exact h.elim
theorem kM.wp {P:Program} {X:List PanicEntry->World->Prop} {o:Oper} {a:Act} {w:World} {R:Value->World->Prop} {K:Act->World->Prop} {Q:Exit->Act->World->Prop} (h:kM P X o a w R) (hK:∀ v w',R v w'->K (a.put o.dst v) w') (hX:∀ ch w',X ch w'->Q (.panic ch) a w'):o.wp P a w K Q:=by
 unfold kM at h;unfold Oper.wp;generalize (execOp a.eval o).run P w=r at *;cases r with
 |ok n w' =>
  cases n <;> simp only[Dn,jO,Oper.upon]at h ⊢
  case value v=>exact hK _ _ h
  case skip=>exact hK _ _ h
  case enter f args =>
   refine Calls.mono h λe w'' he => ?_;rcases he with⟨v,rfl,hr⟩|⟨ch,rfl,hx⟩
   · exact hK _ _ hr
   · exact hX _ _ hx
  case row row args=>exact Rows.mono h λv w'' hr=>hK _ _ hr
 |halt x w'=>exact h.elim
section
variable {P:Program} {Q:Exit->Act->World->Prop}
structure Xw (P:Program) (X:List PanicEntry->World->Prop) (ds:List (Option Tmp)) (ws ns:List (List Nat)) (Cs:List (Option Value)) (W:List Nat) (M:Nat->World->Prop) (a:Act) (i:Nat) (o:Oper):Prop where
 c:W.contains i=false->∀ s x,Qc ws W i s=true->Qd ws W i s=true->M s x->Gives P o (aB ds (cv Cs) (ns.getD i []) a) x (λv y=>v=cv Cs i/\y=x)
 w:∀ r,r<W.length->W.getD r 0=i->∀ x,M r x->kM P X o (aB ds (cv Cs) (ns.getD i []) a) x (λv y=>(∀ c,Cs.getD i none=some c->v=c)/\M (r+1) y)
structure XI (Cs:List (Option Value)) (W:List Nat) (M:Nat->World->Prop) (L:Array Bool) (vs:Nat->Value) (x:World):Prop where
 st:∃ s,s<=W.length/\(∀ r,r<W.length->L.getD (W.getD r 0) false=decide (r<s))/\M s x
 val:∀ j,L.getD j false=true->∀ c,Cs.getD j none=some c->vs j=c
end
section
variable {P:Program} {X:List PanicEntry->World->Prop} {ds:List (Option Tmp)} {ws ns:List (List Nat)} {Cs:List (Option Value)} {W:List Nat} {M:Nat->World->Prop} {a:Act} {i:Nat} {o:Oper}
theorem xc (h:∀ (x:World),Gives P o (aB ds (cv Cs) (ns.getD i []) a) x (λv y=>v=cv Cs i/\y=x)) (hw:W.contains i=false:=by kernel_rfl):Xw P X ds ws ns Cs W M a i o :=
 ⟨λ_ _ x _ _ _=>h x,λ_ hr e=>(LA hw hr e).elim⟩
end
def CP (p:Value->World->Prop):Prop:=∀ v x y,p v x->p v y
theorem WG:CP aP:=λ_ _ _ h=>h
def Af:List Bool->List (Value->World->Prop)->Prop
 |b :: bs,p :: l=>(qb p/\(b=false->CP p))/\Af bs l
 | [],[]=>True
 |_,_=>False
theorem Af.at:∀ {bs:List Bool} {l:List (Value->World->Prop)},Af bs l->∀ j,qb (l.getD j aP)/\(bs.getD j false=false->CP (l.getD j aP))
 | [],[],_,_=>⟨sF,λ_=>WG⟩
 |b :: _,_ :: _,h,0=>⟨h.1.1,λhb=>h.1.2 hb⟩
 |_ :: bs,_ :: l,h,j+1=>Af.at (bs:=bs) (l:=l) h.2 j
def Nq (ws:List (List Nat)) (e:Nat) (be:List Nat):Bool:=be.all λi=>decide (i<e) && ((ws.getD e []).contains i || be.any λm=>decide (i<m) && (ws.getD m []).contains i)
section
variable {P:Program} {Q:Exit->Act->World->Prop}
structure LI (ws:List (List Nat)) (e:Nat) (kl:List Bool) (Ps:List (Value->World->Prop)) (O:Nat->Prop) (Pl:Value->World->Prop) (w:World) (L:Array Bool) (vs:Nat->Value) (x:World):Prop where
 mv:Mv (λb=>w.heap.size<=b\/(O b/\L.getD e false=true)) w x
 val:∀ j,j≠e->L.getD j false=true->(kl.getD j false=true->L.getD e false=false\/e∈ws.getD j [])->(Ps.getD j aP) (vs j) x
 last:L.getD e false=true->Pl (vs e) x
structure aar (ws:List (List Nat)) (e:Nat) (kl:List Bool) (Ps:List (Value->World->Prop)) (O:Nat->Prop) (Pl:Value->World->Prop) (w:World) (n:Nat) (vs:Nat->Value) (x:World):Prop where
 mv:Mv (λb=>w.heap.size<=b\/O b) w x
 val:∀ j,j<n->j≠e->(kl.getD j false=false\/e∈ws.getD j [])->(Ps.getD j aP) (vs j) x
 last:Pl (vs e) x
end
section
variable {P:Program} {Q:Exit->Act->World->Prop}
def Qs (P:Program) (Q:Exit->Act->World->Prop) (ops:Array Oper) (suf:List Oper):Exit->Act->World->Prop
 |.normal,a,w=>wpList P ops Q suf a w
 |e,a,w=>Q e a w
theorem SL {ops:Array Oper} {suf:List Oper} (h:LetsOut (Qs P Q ops suf)):LetsOut Q:=h
theorem Oper.Xx {ops:Array Oper} {suf:List Oper} {o:Oper} {a:Act} {w:World} {K:Act->World->Prop} (h:o.wp P a w K (Qs P Q ops suf)):o.wp P a w K Q:=by
 unfold Oper.wp at *;generalize (execOp a.eval o).run P w=r at *;cases r with
 |ok n w' =>
  cases n <;> simp only[Oper.upon]at h ⊢ <;>
   first
    |exact h
    |exact Calls.mono h (λe w'' he=>by cases e <;> exact he)
 |halt x w'=>cases x <;> simp only[Oper.upon]at h ⊢ <;> exact h
def uW (l:List Oper):Bool:=l.all λo=>o.guard.isNone
theorem Ip {l:List Oper} (h:uW l=true) {i:Nat} {o:Oper} (ho:l[i]? = some o):o.guard=none:=by
 have:=List.all_eq_true.1 h o (List.mem_of_getElem? ho)
 simpa using this
theorem Cy {ops:Array Oper} {i:Nat} {o:Oper} {K:Act->World->Prop} {a:Act} {w:World} (ho:ops[i]? = some o) (hg:o.guard=none):wpOp P ops Q i K a w↔(o.wp P a w K Q\/(o.asks P a w/\LetsOut Q)):=by
 unfold wpOp;rw[ho];have hw:Region.wanted o (yielded ops a.tmps)=true:=by simp[Region.wanted,hg]
 simp only[hw,if_true]
def nE (ws:List (List Nat)) (m n:Nat):Bool:=((List.range n).all λi=>(ws.getD i []).all λj=>decide (j<i)) && ((List.range n).all λi=>decide (i<m) || Nq ws i (List.range i))
theorem Iz {ws:List (List Nat)} {e:Nat} {L:Array Bool} (h:Nq ws e (List.range e)=true) (hcl:mh ws L) (hw:∀ j∈ws.getD e [],L.getD j false=true):∀ i,i<e->L.getD i false=true:=by
 have key:∀ n i,e - i<=n->i<e->L.getD i false=true:=by
  intro n
  induction n with
  |zero=>intro i hn hi;omega
  |succ n ih =>
   intro i hn hi;have h2:=List.all_eq_true.1 h i (List.mem_range.2 hi);simp only[Bool.and_eq_true,decide_eq_true_eq,Bool.or_eq_true,List.any_eq_true,List.contains_iff_mem]at h2;obtain⟨h3,h4|⟨m,hm,h5,h6⟩⟩:=h2
   · exact hw i h4
   · exact hcl m (ih m (by omega) (List.mem_range.1 hm)) i h6
 exact λi hi=>key _ i (Nat.le_refl _) hi
theorem y7 {ops:Array Oper} {i:Nat} {o:Oper} (ho:ops[i]? = some o):(bH ops).getD i []=(o.after.toList.filter (Region.binds .any)).map (·.on):=by
 simp[bH,List.getD,ho]
theorem l8 {ops:Array Oper} {L:Array Bool} {i:Nat} (hs:L.size=ops.size):i∈Region.ready .any ops L↔i<ops.size/\L.getD i false=false/\∀ j∈(bH ops).getD i [],L.getD j false=true:=by
 rw[mem_ready];constructor
 · rintro⟨h1,o,ho,h2⟩;have hi:i<ops.size:=(Array.getElem?_eq_some_iff.1 ho).1;refine⟨hi,?_,λj hj => ?_⟩
   · simp only[Array.getD,hs,hi,dite_true]at h1 ⊢;exact h1
   · rw[y7 ho]at hj;obtain⟨e,he,rfl⟩:=List.mem_map.1 hj;obtain⟨he1,he2⟩:=List.mem_filter.1 he;exact h2 e (by simpa using he1) he2
 · rintro⟨hi,h1,h2⟩;refine⟨by simp only[Array.getD,hs,hi,dite_true]at h1 ⊢;exact h1,ops[i],by simp[hi],λe he hb=>h2 e.on ?_⟩;rw[y7 (o:=ops[i]) (by simp[hi])];exact List.mem_map.2 ⟨e,List.mem_filter.2 ⟨by simpa using he,hb⟩,rfl⟩
theorem SN {ws:List (List Nat)} {L:Array Bool} {i:Nat} (h:mh ws L) (hw:∀ j∈ws.getD i [],L.getD j false=true):mh ws (L.setIfInBounds i true):=λj hj k hk=>by
 by_cases e:k=i
 · subst e;by_cases hl:k<L.size
   · simp[Array.getD,hl]
   · have:L.setIfInBounds k true=L:=Array.setIfInBounds_eq_of_size_le (by omega);rw[this]at hj ⊢;exact h j hj k hk
 · rw[getD_set_ne false (λx=>e x.symm)];by_cases e2:j=i
   · subst e2;exact hw k hk
   · rw[getD_set_ne false (λx=>e2 x.symm)]at hj;exact h j hj k hk
theorem RY {l:List Oper} {m:Nat} (hsp:nE (bH l.toArray) m l.length=true) (hg:uW l=true):∀ (r:List Oper) (p f:Nat) (L:Array Bool) (a:Act) (x:World),p+r.length=l.length->m<=p->l.drop p=r->r.length<=f->L.size=l.length->(∀ j,j<l.length->L.getD j false=decide (j<p))->wpList P l.toArray Q r a x->wpAny P .any l.toArray Q f L a x:=by
 simp only[nE,Bool.and_eq_true]at hsp;obtain⟨hlt,hbe⟩:=hsp;intro r
 induction r with
 |nil =>
  intro p f L a x hp hm hd hf hL hl h;have hr:Region.ready .any l.toArray L=[]:=List.eq_nil_iff_forall_not_mem.2 λi hi=>by
   obtain⟨h1,h2,-⟩:=(l8 (by simpa using hL)).1 hi;simp only[List.size_toArray]at h1;rw[hl i h1]at h2;simp at hp h2;omega
  cases f with
  |zero=>exact⟨hr,h⟩
  |succ f=>exact⟨λ_=>h,λi hi=>by rw[hr]at hi;cases hi⟩
 |cons o r ih =>
  intro p f L a x hp hm hd hf hL hl h;simp only[List.length_cons]at hp hf;obtain⟨f,rfl⟩:∃ f',f=f'+1:=⟨f - 1,by omega⟩;have hpl:p<l.length:=by omega
  have hop:l[p]? = some o:=by
   have:=congrArg List.head? hd;rw[List.head?_drop]at this;simpa using this
  have hgo:=Ip hg hop;have hcl:mh (bH l.toArray) L:=λj hj k hk=>by
   have hjl:j<l.length:=by
    rcases Nat.lt_or_ge j l.length with h|h
    · exact h
    · simp[Array.getD,hL,Nat.not_lt.2 h]at hj
   have h1:=List.all_eq_true.1 (List.all_eq_true.1 hlt j (List.mem_range.2 hjl)) k hk;simp only[decide_eq_true_eq]at h1;rw[hl j hjl]at hj;rw[hl k (by omega)];simp at hj ⊢;omega
  have Qe:p∈Region.ready .any l.toArray L:=(l8 (by simpa using hL)).2 ⟨by simpa using hpl,by rw[hl p hpl];simp,λj hj=>by
   have h1:=List.all_eq_true.1 (List.all_eq_true.1 hlt p (List.mem_range.2 hpl)) j hj;simp only[decide_eq_true_eq]at h1;rw[hl j (by omega)];simpa using h1⟩
  refine⟨λhe=>(by rw[he]at Qe;cases Qe),λi hi => ?_⟩;have hie:i=p:=by
   obtain⟨h1,h2,h3⟩:=(l8 (by simpa using hL)).1 hi;simp only[List.size_toArray]at h1;rw[hl i h1]at h2;simp only[decide_eq_false_iff_not]at h2;rcases Nat.lt_or_ge p i with h4|h4
   · exfalso;have h5:=List.all_eq_true.1 hbe i (List.mem_range.2 h1);simp only[Bool.or_eq_true,decide_eq_true_eq]at h5;rcases h5 with h5|h5
     · omega
     · have:=Iz h5 hcl h3 p h4;rw[hl p hpl]at this;simp at this
   · omega
  subst hie;rw[Cy (by simpa using hop) hgo];have h':=h;rw[wpList]at h';have hw:Region.wanted o (yielded l.toArray a.tmps)=true:=by simp[Region.wanted,hgo]
  simp only[hw,if_true]at h';rcases h' with h' | h'
  · refine .inl (Oper.wp_mono (λa' w' hK => ?_) h');refine ih (i+1) f _ a' w' (by omega) (by omega) ?_ (by omega) (by simpa using hL) (λj hj => ?_) hK
    · have:=congrArg List.tail hd
      simpa[List.tail_drop]using this
    · by_cases e:j=i
      · subst e;simp[Array.getD,hL,hj]
      · rw[getD_set_ne false (λx=>e x.symm),hl j hj];by_cases h6:j<i
        · simp[h6];omega
        · simp[h6];omega
  · exact .inr h'
theorem Iq {pre suf:List Oper} {a:Act} {w:World} (hsp:nE (bH (pre ++ suf).toArray) pre.length (pre ++ suf).length=true) (hg:uW (pre ++ suf)=true)
 (h:wpAny P .any pre.toArray (Qs P Q (pre ++ suf).toArray suf) pre.toArray.size (Array.replicate pre.toArray.size false) a w):wpAny P .any (pre ++ suf).toArray Q (pre ++ suf).toArray.size (Array.replicate (pre ++ suf).toArray.size false) a w:=by
 have Ag:=hsp;simp only[nE,Bool.and_eq_true]at Ag;obtain⟨hlt,hbe⟩:=Ag;have hln:(pre ++ suf).length=pre.length+suf.length:=List.length_append;have hge:∀ i,i<pre.length->(pre ++ suf)[i]? = pre[i]? := λi hi=>List.getElem?_append_left hi;have Gs:∀ i,i<pre.length->(bH (pre ++ suf).toArray).getD i []=(bH pre.toArray).getD i []:=λi hi=>by
  have h1:pre[i]? = some pre[i]:=List.getElem?_eq_getElem hi;rw[y7 (o:=pre[i]) (by simpa using(hge i hi).trans h1),y7 (o:=pre[i]) (by simp)]
 have key:∀ (fuel:Nat) (La L:Array Bool) (a:Act) (x:World),La.size=pre.length->L.size=(pre ++ suf).length->(∀ j,j<pre.length->La.getD j false=L.getD j false)->(∀ j,pre.length<=j->L.getD j false=false)->mh (bH (pre ++ suf).toArray) L ->
  wpAny P .any pre.toArray (Qs P Q (pre ++ suf).toArray suf) fuel La a x->wpAny P .any (pre ++ suf).toArray Q (fuel+suf.length) L a x:=by
  intro fuel
  have hmin:∀ (La L:Array Bool),La.size=pre.length->L.size=(pre ++ suf).length->(∀ j,j<pre.length->La.getD j false=L.getD j false)->(∃ j,j<pre.length/\L.getD j false=false)->∃ i,i∈Region.ready .any pre.toArray La:=by
   intro La L h1 h2 h3 hj;obtain⟨j,hj⟩:=hj;have:∀ n j,j<n->j<pre.length->L.getD j false=false->∃ i,i∈Region.ready .any pre.toArray La:=by
    intro n
    induction n with
    |zero=>intro j hn;omega
    |succ n ih =>
     intro j hn hj hf;by_cases hall:∀ k,k<j->L.getD k false=true
     · refine⟨j,(l8 (by simpa using h1)).2 ⟨by simpa using hj,by rw[h3 j hj];exact hf,λk hk => ?_⟩⟩;rw[← Gs j hj]at hk;have h4:=List.all_eq_true.1 (List.all_eq_true.1 hlt j (List.mem_range.2 (by omega))) k hk;simp only[decide_eq_true_eq]at h4;rw[h3 k (by omega)];exact hall k h4
     · simp only[Classical.not_forall]at hall;obtain⟨k,hk,fO⟩:=hall;exact ih k (by omega) (by omega) (by simpa using fO)
   exact this (j+1) j (by omega) hj.1 hj.2
  have hdone:∀ (f:Nat) (L:Array Bool) (a:Act) (x:World),suf.length<=f->L.size=(pre ++ suf).length->(∀ j,j<pre.length->L.getD j false=true)->(∀ j,pre.length<=j->L.getD j false=false)->wpList P (pre ++ suf).toArray Q suf a x->wpAny P .any (pre ++ suf).toArray Q f L a x:=λf L a x hf hL h1 h2 h=>by
   refine RY hsp hg suf pre.length f L a x hln.symm (Nat.le_refl _) (by simp) hf hL (λj hj => ?_) h;rcases Nat.lt_or_ge j pre.length with h3|h3
   · rw[h1 j h3];simp[h3]
   · rw[h2 j h3];simp;omega
  induction fuel with
  |zero =>
   intro La L a x mZ hL he hz hcl h;refine hdone _ L a x (by omega) hL (λj hj => ?_) hz h.2;cases hv:L.getD j false with
   |true=>rfl
   |false =>
    obtain⟨i,hi⟩:=hmin La L mZ hL he ⟨j,hj,hv⟩;rw[h.1]at hi;cases hi
  |succ fuel ih =>
   intro La L a x mZ hL he hz hcl h;by_cases hall:∀ j,j<pre.length->L.getD j false=true
   · refine hdone _ L a x (by omega) hL hall hz (h.1 (List.eq_nil_iff_forall_not_mem.2 λi hi => ?_));obtain⟨h1,h2,-⟩:=(l8 (by simpa using mZ)).1 hi;simp only[List.size_toArray]at h1;rw[he i h1,hall i h1]at h2;cases h2
   · simp only[Classical.not_forall]at hall;obtain⟨j,hj,Bp⟩:=hall;have Bp:L.getD j false=false:=by simpa using Bp
     rw[show fuel+1+suf.length=(fuel+suf.length)+1 by omega];refine⟨λhr => ?_,λi hi => ?_⟩
     · exfalso;obtain⟨i,hi⟩:=hmin La L mZ hL he ⟨j,hj,Bp⟩;obtain⟨h1,h2,h3⟩:=(l8 (by simpa using mZ)).1 hi;simp only[List.size_toArray]at h1;have:i∈Region.ready .any (pre ++ suf).toArray L:=(l8 (by simpa using hL)).2 ⟨by simp;omega,by rw[← he i h1];exact h2,λk hk=>by
        rw[Gs i h1]at hk;have h4:=h3 k hk;rcases Nat.lt_or_ge k pre.length with h5|h5
        · rw[← he k h5];exact h4
        · simp[Array.getD,mZ,Nat.not_lt.2 h5]at h4⟩
       rw[hr]at this;cases this
     · obtain⟨h1,h2,h3⟩:=(l8 (by simpa using hL)).1 hi;simp only[List.size_toArray]at h1;have him:i<pre.length:=by
        rcases Nat.lt_or_ge i pre.length with h4|h4
        · exact h4
        · exfalso;have h5:=List.all_eq_true.1 hbe i (List.mem_range.2 h1);simp only[Bool.or_eq_true,decide_eq_true_eq]at h5;rcases h5 with h5|h5
          · omega
          · have:=Iz h5 hcl h3 j (by omega);rw[Bp]at this;cases this
       have hir:i∈Region.ready .any pre.toArray La:=(l8 (by simpa using mZ)).2 ⟨by simpa using him,by rw[he i him];exact h2,λk hk=>by
        rw[← Gs i him]at hk;have h4:=List.all_eq_true.1 (List.all_eq_true.1 hlt i (List.mem_range.2 h1)) k hk;simp only[decide_eq_true_eq]at h4;rw[he k (by omega)];exact h3 k hk⟩
       have hp:=h.2 i hir;have hpo:pre[i]? = some pre[i]:=List.getElem?_eq_getElem him;have hlo:(pre ++ suf)[i]? = some pre[i]:=(hge i him).trans hpo;have hgo:=Ip hg hlo;rw[Cy (o:=pre[i]) (by simp) hgo]at hp;rw[Cy (by simpa using hlo) hgo];rcases hp with hp|⟨hp1,hp2⟩
       · refine .inl (Oper.wp_mono (λa' w' hK => ?_) (Oper.Xx hp));refine ih (La.setIfInBounds i true) (L.setIfInBounds i true) a' w' (by simpa using mZ) (by simpa using hL) (λk hk => ?_) (λk hk => ?_) (SN hcl h3) hK
         · by_cases e:k=i
           · subst e;simp[Array.getD,mZ,hL,hk];omega
           · rw[getD_set_ne false (λx=>e x.symm),getD_set_ne false (λx=>e x.symm)];exact he k hk
         · rw[getD_set_ne false (by omega)];exact hz k hk
       · exact .inr ⟨hp1,SL hp2⟩
 have hf:∀ n j,(Array.replicate n false).getD j false=false:=by
  intro n j;by_cases hj:j<n <;> simp[Array.getD,hj]
 have:=key pre.toArray.size (Array.replicate pre.toArray.size false) (Array.replicate (pre ++ suf).toArray.size false) a w (by simp) (by simp) (λj _=>by rw[hf,hf]) (λj _=>hf _ j) (λj hj=>by rw[hf]at hj;cases hj) h;rw[show(pre ++ suf).toArray.size=pre.toArray.size+suf.length by simp]at this ⊢;exact this
theorem ZP {id:Nat} {a:Act} {w:World} {l:List Oper} (m:Nat) (N:Nat) (ds:List (Option Tmp)) (ns:List (List Nat)) (T:List Nat) (Ss:List Sp) (mG:AS ((Ss.map Sp.k).filterMap Kd.zero) T 0 Ss) (hR0:∀ i R iv z t,(Ss.map Sp.k).getD i .op = .rs R iv z t->R<w.drew.heap.size/\w.drew.heap[R]? = some (.cells z t (0,0)))
 (hstep:mg (nP P ds (bH (l.take m).toArray) ns T Ss w.drew a) 0 (l.take m))
 (hend:∀ (vs:Nat->Value) (x:World),GE T Ss w.drew vs x->wpList P l.toArray Q (l.drop m) (aB ds (λj=>sv (Ss.getD j .n) (vs j)) (rg 0 ds) a) x)
 (hm:P.follows .mixedOrders=true:=by kernel_rfl) (hN:a.tmps.size=N:=by rfl) (hok:kS N (l.take m).toArray ds (bH (l.take m).toArray) ns []=true:=by kernel_rfl) (hkd:Ae (bH (l.take m).toArray) (jy T Ss.length) (Ss.map Sp.k)=true:=by kernel_rfl) (hlen:(Ss.map Sp.k).length=(l.take m).length:=by rfl) (hr:rg 0 ds=List.range (l.take m).length:=by rfl) (hc:mY T Ss=true:=by kernel_rfl)
 (hsp:nE (bH l.toArray) m l.length=true:=by kernel_rfl) (hg:uW l=true:=by kernel_rfl) (lI:(l.take m).length=m:=by rfl):(Code.region id l.toArray true).wp P Q a w:=by
 refine wp_region_any hm ?_;have hl:l.take m ++ l.drop m=l:=List.take_append_drop m l;have h1:=Iq (P:=P) (Q:=Q) (pre:=l.take m) (suf:=l.drop m) (a:=a) (w:=w.drew) (by rw[hl,lI];exact hsp) (by rw[hl];exact hg) (by
  refine Iy N ds (bH (l.take m).toArray) ns (jy T Ss.length) (Ss.map Sp.k) (Ss.map Sp.P) hN hok hkd hlen (oZ Ss) (by have:=mG.all;rwa[← List.range_eq_range']at this) hR0 (Cu (λ_ _ h=>h.s) _ _ hstep) λvs x h => ?_;have h1:=GE.of h hc;have h2:=hend vs x h1;rw[hl];rwa[hr,uV _ _ λj _=>h1.c j]at h2)
 rw[hl]at h1;exact h1
end
end
section
open Go.RowKit Go.Instr
attribute [local go_sem ↓] jG
theorem gM {w:World} {X:Nat} {c0 c1 c2 c3 c4:Value} {t:TypeId} (h:w.heap[X]? = some (.cells #[c0,c1,c2,c3,c4] t (0,0))):(w.cell? ⟨X,0,none⟩=some c0/\w.cell? ⟨X,1,none⟩=some c1)/\w.cell? ⟨X,2,none⟩=some c2/\w.cell? ⟨X,3,none⟩=some c3/\w.cell? ⟨X,4,none⟩=some c4:=by
 simp[World.cell?,h]
theorem WH {op:Int} (h0:0<=op) (h1:op<35) (xs:List Int):(wX (je op) xs).length<=10:=by
 have key:∀ cs xs,(wX cs xs).length<=(cs.map dW).sum:=by
  intro cs
  induction cs with
  |nil=>intro xs;cases xs <;> simp[wX]
  |cons c cs ih =>
   intro xs;cases xs with
   |nil=>simp[wX]
   |cons x xs=>have:=ih xs;simp only[wX,List.length_append,JN,List.map_cons,List.sum_cons];omega
 refine Nat.le_trans (key _ _) ?_;rcases Lm h0 h1 with rfl|rfl|rfl|rfl|rfl|rfl|rfl|rfl|rfl|rfl|rfl|rfl|rfl|rfl|rfl|rfl|rfl|rfl|rfl|rfl|rfl|rfl|rfl|rfl|rfl|rfl|rfl|rfl|rfl|rfl|rfl|rfl|rfl|rfl|rfl <;> decide
def dG (l:List Ins) (k:Nat):List Int:=ae l.length 4 ++ (l.take k).flatMap wI
theorem IU (l:List Ins) (k:Nat) (h:k<l.length):dG l (k+1)=dG l k ++ ([l[k].op % 256] ++ wX (je l[k].op) (rq l[k])):=by
 unfold dG;rw[List.take_succ_eq_append_getElem h,List.flatMap_append,List.append_assoc];simp[wI,ae]
theorem Ul (l:List Ins) (k:Nat) (hv:∀ i∈l,i.bR=true/\Bl i):(dG l k).length<=4+11 * k:=by
 induction k with
 |zero=>simp[dG,JN]
 |succ k ih =>
  rcases Nat.lt_or_ge k l.length with h|h
  · rw[IU l k h];have hi:=hv _ (List.getElem_mem h);have gX:l[k].op<35:=by
     have:=hi.1;simp only[Ins.bR,Bool.and_eq_true,decide_eq_true_eq]at this;exact this.1
    have:=WH hi.2.1 gX (rq l[k]);simp only[List.length_append,List.length_cons,List.length_nil];omega
  · have:dG l (k+1)=dG l k:=by unfold dG;rw[List.take_of_length_le (by omega),List.take_of_length_le h]
    rw[this];omega
theorem Um (l:List Ins):dG l l.length=wA l:=by unfold dG wA;rw[List.take_length]
theorem WI {o:Nat} (h:o<35):((o:Int)) % 256=o:=by omega
theorem WJ (xs:List Int):wX [] xs=[]:=by cases xs <;> rfl
theorem Vt (cs xs:List Int) (j:Nat) (h:j<cs.length) (h':j<xs.length):wX (cs.drop j) (xs.drop j)=ae xs[j] (dW cs[j]) ++ wX (cs.drop (j+1)) (xs.drop (j+1)):=by
 rw[List.drop_eq_getElem_cons h,List.drop_eq_getElem_cons h'];rfl
theorem zg {w:World} {X:Nat} {a b c d:Int} {t:TypeId} (h:w.heap[X]? = some (.cells #[.int .i64 a,.int .i64 b,.int .i64 c,.int .i64 d] t (0,0))) {j:Nat} (hj:j<4):w.cell? ⟨X,j,none⟩=some (.int .i64 ([a,b,c,d].getD j 0)):=by
 rcases(by omega:j=0\/j=1\/j=2\/j=3)with rfl|rfl|rfl|rfl <;> simp[World.cell?,h]
def Fq (w:World) (l:List Ins) (e:Ending) (w':World):Prop:=(dO l≠0/\e = .returned (.tuple #[.slice none 0 0,.int .i64 (dO l)])/\Grow w w')\/(dO l=0/\∃ a c,e = .returned (.tuple #[.slice a (wA l).length c,.int .i64 0])/\bS w' w.heap.size (.slice a (wA l).length c) (wA l)/\Grow w w')
theorem aR.new {w w':World} (h:aR w.heap.size w w'):Grow w w':=h.mono λb e=>by
 obtain⟨h1,cs,z,h2⟩:=e;have:=lt_of_block h2;omega
theorem Un (v:Value) (l:List Ins) (w:World) (h:ai 5 Ins.cells w v l) (hb:∀ i∈l,Bl i) (ht:bW w):Calls Tryz.prog 22 #[v] w (Fq w l):=by
 obtain⟨va,vc,rfl,-,Ad⟩:=h.form;have ng:=ł (SK _ l w h hb ht);have HR:=ł h;have HE:=ł (show ∀ e w',Fq w l e w'=((dO l≠0/\e = .returned (.tuple #[.slice none 0 0,.int .i64 (dO l)])/\Grow w w')\/(dO l=0/\∃ a c,e = .returned (.tuple #[.slice a (wA l).length c,.int .i64 0])/\bS w' w.heap.size (.slice a (wA l).length c) (wA l)/\Grow w w'))from λ_ _=>rfl);have HV:=ł (show dO l=0->l.length<=65536/\∀ i∈l,i.bR=true/\Bl i from λe=>by
  unfold dO at e;split at e
  · cases e
  · rename_i h1;split at e
    · rename_i h2;exact⟨by omega,λi hi=>⟨List.all_eq_true.1 h2 i hi,hb i hi⟩⟩
    · cases e)
 generalize dO l=AC at *;generalize Fq w l=EG at *;clear h hb ht
 go_enter Tryz.func22,Tryz.ntmps22
 go_wp2_with fail;refine ng.out.mono ?_;rintro e w1 ⟨rfl,hg⟩;have gW:=ł hg;clear hg ng;by_cases hac:AC=0
 case neg =>
  have d0:(AC != 0)=true:=by simpa using hac
  have d1:(AC == 0)=false:=by simpa using hac
  have HQ:=ł hac;clear hac;go_wp2_with fail;rw[HE.out];exact .inl ⟨HQ.out,rfl,gW.out⟩
 obtain⟨hl,hv⟩:=HV.out hac;have ZQ:=ł hv;have xI:=ł (λk (hk:k<=l.length)=>show(dG l k).length<=800000 from by have:=Ul l k hv;omega);have o8:=ł (JL w.heap.size (.slice none 0 0) [] l.length 4 w1 (World.ownsRow_nil _ _ _ _) gW.out.size (by simp) (by decide));subst hac;clear hv HV;go_wp2_with fail;refine o8.out.mono ?_;rintro e w2 ⟨a2,c2,rfl,hr2,hm2⟩;have HR2:=ł (show bS w2 w.heap.size (.slice a2 (dG l 0).length c2) (dG l 0)from by simpa[dG]using hr2);have mX:=ł ((aR.grow gW.out:aR w.heap.size w w1).trans hm2);have Nr:([] ++ ae (l.length:Int) 4).length=(dG l 0).length:=by simp[dG]
 clear hr2 hm2 o8;rw[Nr];clear Nr;go_wp2_with fail
 go_loopw [5,21] (λbv t wr=>∃ (k:Nat) (pa:Option Addr) (pc:Nat),t = .int .i64 k/\k<=l.length/\bv = .slice pa (dG l k).length pc/\bS wr w.heap.size (.slice pa (dG l k).length pc) (dG l k)/\aR w.heap.size w wr) (λ_ t _=>l.length - (intOf t).toNat)
 case atStart=>exact⟨0,a2,c2,rfl,Nat.zero_le _,rfl,HR2.out,mX.out⟩
 obtain⟨k,pa,pc,rfl,hk,rfl,hrow,hmv⟩:=hrel;have jR:=ł hrow;have jq:=ł hmv;clear hrow hmv HR2 mX;by_cases hlt:k<l.length
 · have hkk:(k:Int)<(l.length:Nat):=by omega
   obtain⟨b0,off,cap',e,_,hcc⟩:=(HR.out.later jq.out.new).at hlt;simp only[Value.slice.injEq,true_and]at e;obtain⟨rfl,rfl⟩:=e;have s0:=hcc 0 _ rfl;have s1:=hcc 1 _ rfl;have s2:=hcc 2 _ rfl;have s3:=hcc 3 _ rfl;have s4:=hcc 4 _ rfl;simp only[Nat.add_zero]at s0;have hbx:=World.block_lt_of_cell? wr _ s0;have Gt:=ZQ.out l[k] (List.getElem_mem _);have gX:l[k].op<35:=by
    have:=Gt.1;simp only[Ins.bR,Bool.and_eq_true,decide_eq_true_eq]at this;exact this.1
   have jA:=ł (IU l k hlt);have Qf:=ł (xI.out k hk);have Yk:=ł (xI.out (k+1) (by omega));have hop:=Gt.2.1;clear hcc Gt;generalize hTe:dG l (k+1)=bP at *;have Qg:=ł hTe;clear hTe;generalize dG l k=mO at *;generalize l[k]=i at *;obtain⟨op,a,b,c,d⟩:=i;simp only at gX hop s0 s1 s2 s3 s4;obtain⟨o,rfl⟩:∃ o:Nat,op=o:=⟨op.toNat,by omega⟩;have ho:o<35:=by omega
   have lJ:=ł (λx=>Io o x ho);have xJ:=ł (show je (o:Int)=aX (oq.getD o ⟨#[]⟩)from by simp[je]);have hc4:=(Dm hop gX).2;rw[xJ.out,nA]at hc4;have Gu:=ł hc4;have Yl:=ł (show bP=mO ++ [(o:Int)] ++ wX (aX (oq.getD o ⟨#[]⟩)) [a,b,c,d]from by rw[jA.out,← xJ.out,WI ho];simp[rq]);clear jA xJ hc4;generalize oq.getD o ⟨#[]⟩=cs at *;have HB1:=ł (heap_alloc_new wr (.cells #[.int .u8 o,.int .i64 a,.int .i64 b,.int .i64 c,.int .i64 d] 69));have hg1:Grow wr (wr.alloc (.cells #[.int .u8 o,.int .i64 a,.int .i64 b,.int .i64 c,.int .i64 d] 69)):=(Mv.refl _ _).alloc _;have hg2:Grow wr ((wr.alloc (.cells #[.int .u8 o,.int .i64 a,.int .i64 b,.int .i64 c,.int .i64 d] 69)).alloc (.cells #[.int .u8 o] 5)):=hg1.alloc _;have hb2:=heap_alloc_new (wr.alloc (.cells #[.int .u8 o,.int .i64 a,.int .i64 b,.int .i64 c,.int .i64 d] 69)) (.cells #[.int .u8 o] 5);rw[World.size_alloc]at hb2;have hle0:=Qf.out;obtain⟨a',c',w3,⟨hok,fM,haw⟩,hr3,eH,-⟩:=nD Tryz.zb (f:=aJ) ma (.slice pa mO.length pc) (.slice (some ⟨wr.heap.size+1,0,none⟩) 1 1) mO [(o:Int)] w.heap.size _ (aU jR.out hg2 (λ_ _ e=>e)) (ai.qm (f:=aJ) (l:=[(o:Int)]) ma hb2 (by simp[flat,aJ]) (Nat.le_of_ble_eq_true rfl)) (λy hy u hu=>by simp at hy;subst hy;simp[aJ]at hu;subst hu;rfl) (by have:=jq.out.size;simp;omega) (by simp;omega);have HR3:=ł (show bS w3 w.heap.size (.slice a' (mO.length+1) c') (mO ++ [(o:Int)])from hr3);have Fs:=aR.own (aU jR.out hg2 (λ_ _ e=>e)) eH;have j6:=ł ((jq.out.trans (aR.grow hg2)).trans Fs);have HB3:=ł (Fs.keep (aD HB1.out ((Mv.refl _ _).alloc _)) (by decide));have lK:=ł (show mO.length+1=(mO ++ [(o:Int)]).length from by simp);clear hr3 eH Fs hg1 hg2 hb2 hle0 HB1;go_wp2_with fail;clear hok fM haw;rw[lK.out]at HR3 ⊢;have hle3:(mO ++ [(o:Int)]).length<=800010:=by have:=Qf.out;simp;omega
   generalize mO ++ [(o:Int)]=Ym at *;have HK:=ł (λ(y:World) (hy:Grow w3 y)=>aD HB3.out hy);refine wg 52 [some 30,some 31,some 32,some 33,some 34,some 9,some 8,none] [[],[0],[1],[],[3],[],[2],[5,4]] [] [.c (.pointer (some ⟨wr.heap.size,0,none⟩)),.c (.int .u8 o),.c (.string cs),.c (.agg #[.int .u8 o,.int .i64 a,.int .i64 b,.int .i64 c,.int .i64 d]),.c (.agg #[.int .i64 a,.int .i64 b,.int .i64 c,.int .i64 d]),.al 7 4 #[.int .i64 0,.int .i64 0,.int .i64 0,.int .i64 0] 98,.c (.string cs),.st 5] trivial (Qb rfl) ?steps ?done
   case steps =>
    refine⟨?s0,?s1,?s2,?s3,?s4,?s5,?s6,?s7,trivial⟩
    case s0|s6 =>
     refine oo (λvs x hP => ?_);simp only[zS];go_simp;exact gc
    case s1|s3 =>
     refine ok HK (λvs x hG HX hP => ?_);obtain⟨⟨i0,i1⟩,i2,i3,i4⟩:=gM HX.out;simp only[zS];go_simp;exact gc
    case s2 =>
     refine ok HK (λvs x hG HX hP => ?_);have HC:=ł (lJ.out x);simp only[zS];go_simp;refine(HC.out).mono ?_;rintro e y ⟨rfl,rfl⟩;exact⟨_,rfl,Fp (Mv.refl _ _) rfl⟩
    case s4 =>
     refine ok HK (λvs x hG HX hP => ?_);have HC:=ł (RV ⟨o,a,b,c,d⟩ x);simp only[zS];go_simp;refine(HC.out).mono ?_;rintro e y ⟨rfl,hg⟩;exact⟨_,rfl,Fp hg rfl⟩
    case s5 =>
     refine oz (λvs x => ?_);simp only[zS];go_simp;exact⟨rfl,rfl⟩
    case s7 =>
     refine os (λvs x g hg hb hv => ?_);have h4:vs 4 = .agg #[.int .i64 a,.int .i64 b,.int .i64 c,.int .i64 d]:=hv;obtain⟨c0,c1,c2,c3⟩:=SG hb;have zt:=bC hb;simp only[zS,hg,h4];go_simp;exact⟨(Nn hb _ _ _ _).1,(Nn hb _ _ _ _).2⟩
   case done =>
   intro vs w5 hE;have hG:=hE.grow;obtain⟨g5,a5,l5,m5,b5⟩:=hE.box 5;simp only[zS,Nat.reduceAdd,a5];have Qh:=ł hG;have Bq:=ł b5;simp only[zS,iB]at Bq;have ZR:=ł (aU HR3.out Qh.out (λ_ _ e=>e));have xK:=ł (j6.out.trans (aR.grow Qh.out));have aas:=lt_of_block Bq.out;clear hE hG b5 HK HB3 HR3 j6;go_wp2_with fail
   go_loopw [5,37] (λbv t wr=>∃ (j:Nat) (pre:List Int) (qa:Option Addr) (qc:Nat),t = .int .i64 j/\j<=cs.size/\bv = .slice qa pre.length qc/\pre ++ wX ((aX cs).drop j) ([a,b,c,d].drop j)=bP/\bS wr w.heap.size (.slice qa pre.length qc) pre/\aR w.heap.size w5 wr) (λ_ t _=>cs.size - (intOf t).toNat)
   case atStart=>exact⟨0,Ym,a',c',rfl,Nat.zero_le _,rfl,by rw[Yl.out];rfl,ZR.out,aR.refl _⟩
   obtain⟨j,pre,qa,qc,rfl,hj,rfl,htot,hrow,hmv⟩:=hrel;have jB:=ł hrow;have kg:=ł hmv;have Br:=ł htot;have hpl:pre.length<=800000:=by have h1:=Yk.out;have h2:=congrArg List.length htot;rw[List.length_append]at h2;omega
   clear hrow hmv htot;by_cases hjs:j<cs.size
   · have hjk:(j:Int)<(cs.size:Nat):=by omega
     have jC:j<4:=by have:=Gu.out;omega
     have Bt:=ł jC;have xL:=ł hjs;have HST:=ł (Vt (aX cs) [a,b,c,d] j (by rw[nA];exact hjs) (by simpa using jC));have wJ:(aX cs)[j]'(by rw[nA];exact hjs)=(cs[j].toNat:Int):=by simp[aX];rfl
     rw[wJ]at HST;have ZT:=zg (kg.out.keep Bq.out (by decide)) jC;have xM:=ł (λ(y:World) (hy:Grow wr y)=>zg (aD (kg.out.keep Bq.out (by decide)) hy) jC);generalize hxj:[a,b,c,d].getD j 0=xj at *;have Ns:([a,b,c,d])[j]'(by simpa using jC)=xj:=by rw[← hxj,List.getD_eq_getElem?_getD,List.getElem?_eq_getElem];rfl
     rw[Ns]at HST;generalize hcj:(cs[j].toNat:Int)=cj at *;have Bu:=ł hcj;have o8:=ł (λ(y:World) (hy:Grow wr y)=>JL w.heap.size (.slice qa pre.length qc) pre xj (dW cj) y (aU jB.out hy (λ_ _ e=>e)) (Nat.le_trans (Nat.le_trans xK.out.size kg.out.size) hy.size) (by omega) (by rcases Jk cj with h|h|h <;> omega));have Yn:=ł (show(pre ++ ae xj (dW cj)) ++ wX ((aX cs).drop (j+1)) ([a,b,c,d].drop (j+1))=bP from by rw[← Br.out,HST.out,List.append_assoc]);clear wJ ZT hxj Ns HST Br hcj jC hpl hjs hj;go_wp2_with fail;refine ZP 8 52 [some 40,some 41,some 42,some 43,some 44,some 45,some 46,some 47] [[],[],[1],[2],[],[],[4,5],[6]] [] [.c (.slice qa pre.length qc),.c (.int .i64 (j:Nat)),.c (.pointer (some ⟨g5,j,none⟩)),.c (.int .i64 xj),.c (.string cs),.c (.int .i64 (j:Nat)),.c (.int .u8 cj),.c (.int .i64 (dW cj))] trivial (Qb rfl) ?steps ?done
     case steps =>
      refine⟨?s0,?s1,?s2,?s3,?s4,?s5,?s6,?s7,trivial⟩
      case s0|s1|s4|s5 =>
       refine oo (λvs x hP => ?_);simp only[zS];go_simp;exact gc
      case s2 =>
       refine ok xM (λvs x hG HX hP => ?_);have jC:(j:Int)<4:=by have:=Bt.out;omega
       simp only[zS];go_simp;exact gc
      case s3 =>
       refine ok xM (λvs x hG HX hP => ?_);have c0:=HX.out;have hl0:=World.block_lt_of_cell? x _ c0;simp only[zS];go_simp;exact gc
      case s6 =>
       refine ok xM (λvs x hG HX hP => ?_);have hjs:=xL.out;simp only[zS];go_simp;exact gc (congrArg (Value.int .u8) Bu.out)
      case s7 =>
       refine ok xM (λvs x hG HX hP => ?_);have HC:=ł (IM cj x);simp only[zS];go_simp;refine(HC.out).mono ?_;rintro e y ⟨rfl,rfl⟩;exact⟨_,rfl,Fp (Mv.refl _ _) rfl⟩
     case done =>
     intro vs w6 hE;have hG:=hE.grow;have xN:=ł hG;clear hE hG;simp only[zS,Nat.reduceAdd,List.drop_succ_cons,List.drop_zero];go_wp2_with fail;refine(o8.out _ xN.out).mono ?_;rintro e w7 ⟨ra,rc,rfl,Qi,Qj⟩;have ry:=ł Qi;have uk:=ł ((kg.out.trans (aR.grow xN.out)).trans Qj);have jC:=Bt.out;clear Qi Qj o8 xM jB kg;go_wp2_with fail;have hjs:=xL.out
     go_roundw
     case rel=>exact⟨j+1,_,ra,rc,by go_num,by have:=xL.out;omega,by simp,Yn.out,ry.out,uk.out⟩
     case measure=>(have:=xL.out;simp[intOf];omega)
   · obtain rfl:j=cs.size:=by omega
     have hjk:¬ ((cs.size:Int)<(cs.size:Nat)):=by omega
     have Qk:=ł (show pre=bP from by have h:=Br.out;rw[List.drop_of_length_le (by rw[nA];exact Nat.le_refl _)]at h;simpa[WJ]using h);have ZU:=ł (xK.out.trans kg.out);clear hpl Br;go_wp2_with fail
     go_roundw
     case rel=>exact⟨k+1,qa,qc,by go_num,by omega,by rw[Qg.out,← Qk.out],by rw[Qg.out,← Qk.out];exact jB.out,ZU.out⟩
     case measure=>(simp[intOf] <;> omega)
 · obtain rfl:k=l.length:=by omega
   have HF:=ł (Um l);have hlt':¬ ((l.length:Int)<(l.length:Nat)):=by omega
   go_wp2_with fail;rw[HE.out];exact .inr ⟨trivial,pa,pc,by rw[HF.out],by have:=jR.out;rwa[HF.out]at this,jq.out.new⟩
end
end Go.Proofs.YtadecgbblajifaaGreatDoor
