import Derived.Test.YtadecgbblajifaaGreatDoorA04
import Derived.OrdersIn
import Derived.TacticsInMore
set_option linter.unusedSimpArgs false
set_option linter.unusedVariables false
set_option maxRecDepth 100000
set_option maxHeartbeats 25600000
namespace Go.Proofs.YtadecgbblajifaaGreatDoor
open Go.RowKit
def jO (P:Program) (R:Value->World->Prop):Result Next->Prop
 |.ok (.value v) w'=>R v w'
 |.ok .skip w'=>R undef w'
 |.ok (.enter f args) w'=>Calls P f args w' λe w''=>∃ v,e = .returned v/\R v w''
 |.ok (.row row args) w'=>Rows P row args w' R
 |_=>False
def Gives (P:Program) (o:Oper) (a:Act) (w:World) (R:Value->World->Prop):Prop:=jO P R ((execOp a.eval o).run P w)
theorem Gives.mono {P:Program} {o:Oper} {a:Act} {w:World} {R R':Value->World->Prop} (h:Gives P o a w R) (hr:∀ v w',R v w'->R' v w'):Gives P o a w R':=by
 unfold Gives at h ⊢;generalize (execOp a.eval o).run P w=r at *;cases r with
 |ok n w' =>
  cases n <;> simp only[jO]at h ⊢
  case value v=>exact hr _ _ h
  case skip=>exact hr _ _ h
  case enter f args =>
   refine Calls.mono h λe w'' he => ?_;obtain⟨v,rfl,hv⟩:=he;exact⟨v,rfl,hr _ _ hv⟩
  case row row args=>exact Rows.mono h λv w'' hv=>hr _ _ hv
 |halt x w'=>exact h.elim
theorem Gives.wp {P:Program} {o:Oper} {a:Act} {w:World} {R:Value->World->Prop} {K:Act->World->Prop} {Q:Exit->Act->World->Prop} (h:Gives P o a w R) (hK:∀ v w',R v w'->K (a.put o.dst v) w'):o.wp P a w K Q:=by
 unfold Gives at h;unfold Oper.wp;generalize (execOp a.eval o).run P w=r at *;cases r with
 |ok n w' =>
  cases n <;> simp only[jO,Oper.upon]at h ⊢
  case value v=>exact hK _ _ h
  case skip=>exact hK _ _ h
  case enter f args =>
   refine Calls.mono h λe w'' he => ?_;obtain⟨v,rfl,hr⟩:=he;exact hK _ _ hr
  case row row args=>exact Rows.mono h λv w'' hr=>hK _ _ hr
 |halt x w'=>exact h.elim
def JS (P:Program) (R:Value->World->Prop):Result Next->Prop
 |.ok (.round l f tmps assign body) w'=>RoundIn Fence.wide 0 P l f tmps assign body w' λe w''=>∃ v,e = .returned v/\R v w''
 |r=>jO P R r
def vK (P:Program) (o:Oper) (a:Act) (w:World) (R:Value->World->Prop):Prop:=JS P R ((execOp a.eval o).run P w)
theorem Gives.wide {P:Program} {o:Oper} {a:Act} {w:World} {R:Value->World->Prop} (h:Gives P o a w R):vK P o a w R:=by
 unfold Gives at h;unfold vK;generalize (execOp a.eval o).run P w=r at *;cases r with
 |ok n w' =>
  cases n
  case round l f tmps assign body=>exact h.elim
  all_goals exact h
 |halt x w'=>exact h.elim
theorem TC {n m:Nat} {P:Program} {l:Nat} {f:FuncId} {tmps:Array Value} {assign body:Code} {w:World} {R:Ending->World->Prop} (h:RoundIn Fence.wide n P l f tmps assign body w R):RoundIn Fence.wide m P l f tmps assign body w R :=
 ⟨h.1,λc cs _=>h.2 c cs (room_wide _)⟩
theorem vK.wpIn {P:Program} {o:Oper} {a:Act} {w:World} {R:Value->World->Prop} {K:Act->World->Prop} {Q:Exit->Act->World->Prop} {n:Nat} (h:vK P o a w R) (hK:∀ v w',R v w'->K (a.put o.dst v) w'):o.wpIn Fence.wide n P a w K Q:=by
 unfold vK at h;refine⟨λ_ _=>trivial,?_⟩;rw[Fence.wide_round,Oper.semAt_none];generalize (execOp a.eval o).run P w=r at *;cases r with
 |ok n' w' =>
  cases n' <;> simp only[JS,jO,Oper.uponIn]at h ⊢
  case value v=>exact hK _ _ h
  case skip=>exact hK _ _ h
  case enter f args =>
   refine⟨λe=>by simp[Fence.wide]at e,callsIn_wide.2 (Calls.mono h λe w'' he => ?_)⟩;obtain⟨v,rfl,hr⟩:=he;exact hK _ _ hr
  case row row args =>
   refine⟨λe=>by simp[Fence.wide]at e,λc cs _ => ?_⟩;obtain⟨v,w'',hr,s⟩:=h c cs;exact⟨v,w'',hK _ _ hr,stepsIn_wide.2 s⟩
  case round l f tmps assign body =>
   refine⟨λe=>by simp[Fence.wide]at e,TC (RoundIn.mono h λe w'' he => ?_)⟩;obtain⟨v,rfl,hr⟩:=he;exact hK _ _ hr
 |halt x w'=>exact h.elim
def dstsOf (ops:Array Oper):List (Option Tmp):=ops.toList.map (·.dst)
def bH (ops:Array Oper):List (List Nat):=ops.toList.map λo=>(o.after.toList.filter (Region.binds .any)).map (·.on)
def Lr (o:Oper):Bool:=match o.op with
 |.select _ _=>false
 |_=>true
def tmpsOf (o:Oper):List Tmp:=o.op.operands.toList.filterMap fun | .tmp t=>some t|_=>none
def kS (N:Nat) (ops:Array Oper) (ds:List (Option Tmp)) (ws ns us:List (List Nat)):Bool :=
 (dstsOf ops == ds) && (bH ops == ws) && (List.range ops.size).all λi=>match ops[i]? with
  |none=>false
  |some o=>o.guard.isNone && Lr o && ((ws.getD i []).all λj=>decide (j<i)) &&
   ((tmpsOf o).all λt=>(List.range ops.size).all λj=>(ds.getD j none != some t) || (ws.getD i []).contains j || (ws.getD j []).contains i || (i == j)) &&
   ((us.getD i []).all λk=>k == i || (ws.getD i []).contains k) &&
   ((List.range ops.size).all λj=>j == i || (ds.getD i none).isNone || ds.getD j none != ds.getD i none) &&
   (match ds.getD i none with|some d=>decide (d<N)|none=>true) &&
   ((ns.getD i []).all λj=>(ws.getD i []).contains j) && ((tmpsOf o).all λt=>(ws.getD i []).all λj=>(ds.getD j none != some t) || (ns.getD i []).contains j)
def aB (ds:List (Option Tmp)) (vs:Nat->Value):List Nat->Act->Act
 | [],a=>a
 |j :: r,a=>aB ds vs r (a.put (ds.getD j none) (vs j))
theorem zR : (∀ P o a w R, Gives P o a w R = jO P R ((execOp a.eval o).run P w)) /\ (∀ ds vs a, aB ds vs [] a = a) /\ (∀ ds vs j r a, aB ds vs (j :: r) a = aB ds vs r (a.put (ds.getD j none) (vs j))) /\ (∀ (a : Act) (d : Tmp) v, a.put (some d) v = { a with tmps := a.tmps.setIfInBounds d v }) /\ (∀ (a : Act) v, a.put none v = a) /\ (∀ (α : Type) (x : α) l d, (x :: l).getD 0 d = x) /\ (∀ (α : Type) (x : α) l n d, (x :: l).getD (n + 1) d = l.getD n d) /\ (∀ (α : Type) (l : List α) i a, l.toArray.setIfInBounds i a = (l.set i a).toArray) /\ (∀ (α : Type) (x : α) l a, (x :: l).set 0 a = a :: l) /\ (∀ (α : Type) (x : α) l n a, (x :: l).set (n + 1) a = x :: l.set n a) := ⟨λ_ _ _ _ _ => rfl, λ_ _ _ => rfl, λ_ _ _ _ _ => rfl, λ_ _ _ => rfl, λ_ _ => rfl, λ_ _ _ _ => rfl, λ_ _ _ _ _ => rfl, λ_ l i a => List.setIfInBounds_toArray l i a, λ_ _ _ _ => rfl, λ_ _ _ _ _ => rfl⟩
def upd (vs:Nat->Value) (i:Nat) (v:Value):Nat->Value:=λk=>if k=i then v else vs k
theorem Jl {ds:List (Option Tmp)} {vs:Nat->Value} {d:Option Tmp} {v:Value} : ∀ (js:List Nat) (a:Act),(∀ j∈js,∀ t,d=some t->ds.getD j none≠some t)->aB ds vs js (a.put d v)=(aB ds vs js a).put d v
 | [],a,_=>rfl
 |j :: r,a,h=>by
  simp only[aB];rw[Act.put_comm a v (vs j) (λt ht=>h j (by simp) t ht)];exact Jl r _ (λk hk=>h k (by simp[hk]))
theorem uV {ds:List (Option Tmp)} {vs us:Nat->Value} : ∀ (js:List Nat) (a:Act),(∀ j∈js,vs j=us j)->aB ds vs js a=aB ds us js a
 | [],a,_=>rfl
 |j :: r,a,h=>by
  simp only[aB];rw[h j (by simp)];exact uV r _ (λk hk=>h k (by simp[hk]))
theorem rX {ds:List (Option Tmp)} {vs:Nat->Value} {x:Operand} : ∀ (js:List Nat) (a:Act),(∀ j∈js,∀ t,ds.getD j none=some t->x ≠ .tmp t)->(aB ds vs js a).eval x=a.eval x
 | [],a,_=>rfl
 |j :: r,a,h=>by
  simp only[aB];rw[rX r _ (λk hk=>h k (by simp[hk]))];exact Act.eval_put (λt ht=>h j (by simp) t ht)
theorem eval_at {ds:List (Option Tmp)} {vs:Nat->Value} {t:Tmp} {j:Nat} : ∀ (js:List Nat) (a:Act),j∈js->ds.getD j none=some t->t<a.tmps.size->(∀ k∈js,ds.getD k none=some t->k=j)->(aB ds vs js a).eval (.tmp t)=vs j
 | [],a,h,_,_,_=>by cases h
 |k :: r,a,h,hd,hs,hu=>by
  simp only[aB];by_cases hr:j∈r
  · refine eval_at r _ hr hd ?_ (λk' hk'=>hu k' (by simp[hk']));cases ds.getD k none <;> simpa[Act.put]using hs
  · have hjk:j=k:=by
     rcases List.mem_cons.1 h with e|e
     · exact e
     · exact absurd e hr
    subst hjk;rw[rX r _ (λk hk t' ht' e=>by
     simp only[Operand.tmp.injEq]at e;subst e;exact hr ((hu k (by simp[hk]) ht') ▸ hk))]
    rw[hd];simp[Act.eval,Act.put,hs]
def dX (n:Nat) (L:Array Bool):List Nat:=(List.range n).filter λj=>L.getD j false
theorem zf {n:Nat} {L:Array Bool} {j:Nat} : j∈dX n L↔j<n/\L.getD j false=true:=by simp[dX]
def mg (f:Nat->Oper->Prop):Nat->List Oper->Prop
 |_,[]=>True
 |i,o :: r=>f i o/\mg f (i+1) r
theorem Cw {f:Nat->Oper->Prop} : ∀ (l:List Oper) (k:Nat),mg f k l->∀ i o,l[i]? = some o->f (k+i) o
 | [],k,_,i,o,h=>by simp at h
 |x :: r,k,h,0,o,ho=>by simp at ho;subst ho;exact h.1
 |x :: r,k,h,i+1,o,ho=>by
  have:=Cw r (k+1) h.2 i o (by simpa using ho);rw[show k+(i+1)=k+1+i by omega];exact this
theorem Cu {f g:Nat->Oper->Prop} (h:∀ i o,f i o->g i o):∀ (l:List Oper) (k:Nat),mg f k l->mg g k l
 | [],_,_=>trivial
 |x :: r,k,hs=>⟨h _ _ hs.1,Cu h r (k+1) hs.2⟩
section
variable {P:Program} {ops:Array Oper} {Q:Exit->Act->World->Prop}
theorem Uk {ds:List (Option Tmp)} {vs:Nat->Value} {n i:Nat} {L:Array Bool} {v:Value} {a:Act} (hi:i<n) (hl:L.getD i false=false) (hsz:i<L.size) (hd:∀ j,j<n->j≠i->∀ t,ds.getD i none=some t->ds.getD j none≠some t) :
 aB ds (upd vs i v) (dX n (L.setIfInBounds i true)) a=(aB ds vs (dX n L) a).put (ds.getD i none) v:=by
 have key:∀ (js:List Nat) (a:Act),js.Nodup->(∀ j∈js,j<n)->i∈js->aB ds (upd vs i v) (js.filter λj=>(L.setIfInBounds i true).getD j false) a=(aB ds vs (js.filter λj=>L.getD j false) a).put (ds.getD i none) v:=by
  intro js
  induction js with
  |nil=>intro a _ _ h;cases h
  |cons j r ih =>
   intro a hnd hlt hm;simp only[List.nodup_cons]at hnd;have hrest:∀ (a:Act),i ∉ r->aB ds (upd vs i v) (r.filter λj=>(L.setIfInBounds i true).getD j false) a=aB ds vs (r.filter λj=>L.getD j false) a:=by
    intro a hir;have e1:(r.filter λj=>(L.setIfInBounds i true).getD j false)=r.filter λj=>L.getD j false:=by
     apply List.filter_congr;intro k hk;exact getD_set_ne false (λe=>hir (e ▸ hk))
    rw[e1];exact uV _ _ (λk hk=>by
     have:k≠i:=λe=>hir (e ▸ (List.mem_filter.1 hk).1);simp[upd,this])
   by_cases hji:j=i
   · subst hji;have hset:(L.setIfInBounds j true).getD j false=true:=by simp[hsz]
     rw[List.filter_cons,List.filter_cons,if_pos hset,if_neg (by simp[hl])];simp only[aB];rw[hrest _ hnd.1];have:upd vs j v j=v:=by simp[upd]
     rw[this];exact Jl _ _ (λk hk t ht=>hd k (hlt k (by simp[(List.mem_filter.1 hk).1])) (λe=>hnd.1 (e ▸ (List.mem_filter.1 hk).1)) t ht)
   · have hir:i∈r:=by
      rcases List.mem_cons.1 hm with e|e
      · exact absurd e.symm hji
      · exact e
     have e2:(L.setIfInBounds i true).getD j false=L.getD j false:=getD_set_ne false (λe=>hji e.symm);have e3:upd vs i v j=vs j:=by simp[upd,hji]
     by_cases hj:L.getD j false=true
     · rw[List.filter_cons,List.filter_cons,if_pos (by rw[e2];exact hj),if_pos hj];simp only[aB,e3];exact ih _ hnd.2 (λk hk=>hlt k (by simp[hk])) hir
     · rw[List.filter_cons,List.filter_cons,if_neg (by rw[e2];exact hj),if_neg hj];exact ih _ hnd.2 (λk hk=>hlt k (by simp[hk])) hir
 exact key (List.range n) a List.nodup_range (λj hj=>List.mem_range.1 hj) (List.mem_range.2 hi)
end
section
variable {P:Program} {ops:Array Oper} {Q:Exit->Act->World->Prop}
def mh (ws:List (List Nat)) (L:Array Bool):Prop:=∀ j,L.getD j false=true->∀ k∈ws.getD j [],L.getD k false=true
theorem Vq {N:Nat} {ds:List (Option Tmp)} {ws ns us:List (List Nat)} (hok:kS N ops ds ws ns us=true) {i:Nat} {o:Oper} (ho:ops[i]? = some o):o.guard=none:=by
 simp only[kS,Bool.and_eq_true]at hok;have h:=List.all_eq_true.1 hok.2 i (List.mem_range.2 (Array.getElem?_eq_some_iff.1 ho).1);rw[ho]at h;simp only[Bool.and_eq_true]at h
 simpa using h.1.1.1.1.1.1.1.1
theorem Vr (A:Nat->Array Bool->Act->World->Prop) (Gv:Oper->Act->World->(Value->World->Prop)->Prop) (Bn:∀ L a x,Region.ready .any ops L=[]->Q .normal a x->A 0 L a x)
 (hAs:∀ fuel L a x,(Region.ready .any ops L=[]->Q .normal a x)->(∀ i∈Region.ready .any ops L,∀ o,ops[i]? = some o->o.guard=none->∃ R,Gv o a x R/\∀ v y,R v y->A fuel (L.setIfInBounds i true) (a.put o.dst v) y)->A (fuel+1) L a x)
 (hcg:∀ o a a' x R,execOp a.eval o=execOp a'.eval o->Gv o a' x R->Gv o a x R) {a:Act} {w:World} (N:Nat) (ds:List (Option Tmp)) (ws ns us:List (List Nat)) (hN:a.tmps.size=N) (hok:kS N ops ds ws ns us=true)
 (I:Array Bool->(Nat->Value)->World->Prop) (hI0:I (Array.replicate ops.size false) (λ_=>undef) w)
 (hstep:∀ i o,ops[i]? = some o->∀ (L:Array Bool) (vs:Nat->Value) (x:World),L.size=ops.size->L.getD i false=false->(∀ j∈ws.getD i [],L.getD j false=true)->mh ws L->I L vs x->Gv o (aB ds vs (ns.getD i []) a) x (λv y=>I (L.setIfInBounds i true) (upd vs i v) y))
 (hend:∀ (L:Array Bool) (vs:Nat->Value) (x:World),(∀ j,j<ops.size->L.getD j false=true)->I L vs x->Q .normal (aB ds vs (List.range ops.size) a) x):A ops.size (Array.replicate ops.size false) a w:=by
 simp only[kS,Bool.and_eq_true]at hok;obtain⟨⟨hds,hws⟩,hall⟩:=hok;have hds:=eq_of_beq hds;have hws:=eq_of_beq hws;have hdst:∀ i o,ops[i]? = some o->ds.getD i none=o.dst:=by
  intro i o ho;rw[← hds];simp[dstsOf,ho]
 have Ls:∀ i o,ops[i]? = some o->∀ j,j∈ws.getD i []↔∃ e∈o.after,Region.binds .any e=true/\e.on=j:=by
  intro i o ho j;rw[← hws];simp[bH,ho,and_assoc]
 have hop:∀ i o,ops[i]? = some o->((o.guard=none/\(∀ cs b,o.op ≠ .select cs b))/\(∀ j∈ws.getD i [],j<i))/\(∀ t∈tmpsOf o,∀ j,j<ops.size->ds.getD j none=some t->j∈ws.getD i []\/i∈ws.getD j []\/i=j)/\(∀ k∈us.getD i [],k=i\/k∈ws.getD i [])/\(∀ j,j<ops.size->j≠i->∀ t,ds.getD i none=some t->ds.getD j none≠some t)/\(∀ d,ds.getD i none=some d->d<N)/\(∀ j∈ns.getD i [],j∈ws.getD i [])/\(∀ t∈tmpsOf o,∀ j∈ws.getD i [],ds.getD j none=some t->j∈ns.getD i []):=by
  intro i o ho;have hi:i<ops.size:=(Array.getElem?_eq_some_iff.1 ho).1;have h:=List.all_eq_true.1 hall i (List.mem_range.2 hi);rw[ho]at h;simp only[Bool.and_eq_true]at h;obtain⟨⟨⟨⟨⟨⟨⟨⟨h1,h2⟩,h3⟩,h4⟩,h5⟩,h6⟩,h7⟩,h8⟩,h9⟩:=h;refine⟨⟨⟨by simpa using h1,λcs b e=>by simp[Lr,e]at h2⟩,λj hj=>by simpa using List.all_eq_true.1 h3 j hj⟩,λt ht j hj hd => ?_,λk hk => ?_,λj hj hne t hdi hdj => ?_,λd hd => ?_,λj hj=>by simpa using List.all_eq_true.1 h8 j hj,λt ht j hj hd => ?_⟩
  · have:=List.all_eq_true.1 (List.all_eq_true.1 h4 t ht) j (List.mem_range.2 hj);rw[hd]at this;simp at this;rcases this with(h|h)|h
    · exact .inl (by simpa using h)
    · exact .inr (.inl (by simpa using h))
    · exact .inr (.inr h)
  · have:=List.all_eq_true.1 h5 k hk;simp at this;rcases this with h|h
    · exact .inl h
    · exact .inr (by simpa using h)
  · have:=List.all_eq_true.1 h6 j (List.mem_range.2 hj);rw[hdi,hdj]at this;simp at this;exact hne this
  · rw[hd]at h7;simpa using h7
  · have:=List.all_eq_true.1 (List.all_eq_true.1 h9 t ht) j hj;rw[hd]at this
    simpa using this
 clear hall
 have main:∀ (fuel:Nat) (L:Array Bool) (vs:Nat->Value) (x:World),L.size=ops.size->(∀ j o,ops[j]? = some o->L.getD j false=true->∀ k∈ws.getD j [],L.getD k false=true)->ops.size<=fuel+(dX ops.size L).length->I L vs x->A fuel L (aB ds vs (dX ops.size L) a) x:=by
  have hdone:∀ (L:Array Bool) (vs:Nat->Value) (x:World),L.size=ops.size->(∀ j o,ops[j]? = some o->L.getD j false=true->∀ k∈ws.getD j [],L.getD k false=true)->I L vs x->Region.ready .any ops L=[]->Q .normal (aB ds vs (dX ops.size L) a) x:=by
   intro L vs x hsz hcl hTx hr;have Lt:∀ (n:Nat),n<=ops.size->∀ j,j<n->L.getD j false=true:=by
    intro n
    induction n with
    |zero=>intro _ j hj;omega
    |succ n ih =>
     intro hn j hj;rcases Nat.lt_or_ge j n with h|h
     · exact ih (by omega) j h
     · obtain rfl:j=n:=by omega
       have hjs:j<ops.size:=by omega
       cases hlj:L.getD j false with
       |true=>rfl
       |false =>
        exfalso;have:j∈Region.ready .any ops L:=by
         refine mem_ready.2 ⟨?_,ops[j],Array.getElem?_eq_getElem hjs,λe he hb => ?_⟩
         · have:j<L.size:=by omega
           simp[this]at hlj ⊢;exact hlj
         · have hw:=(Ls j _ (Array.getElem?_eq_getElem hjs) e.on).2 ⟨e,he,hb,rfl⟩;exact ih (by omega) e.on ((hop j _ (Array.getElem?_eq_getElem hjs)).1.2 _ hw)
        rw[hr]at this;cases this
   have hup:dX ops.size L=List.range ops.size:=by
    unfold dX;exact List.filter_eq_self.2 (λj hj=>Lt ops.size (Nat.le_refl _) j (List.mem_range.1 hj))
   rw[hup];exact hend L vs x (λj hj=>Lt ops.size (Nat.le_refl _) j hj) hTx
  intro fuel
  induction fuel with
  |zero =>
   intro L vs x hsz hcl hf hTx;have hlen:(dX ops.size L).length=ops.size:=by
    have h1:(dX ops.size L).length<=(List.range ops.size).length:=List.length_filter_le _ _;simp at h1;omega
   have hr:Region.ready .any ops L=[]:=by
    refine List.eq_nil_iff_forall_not_mem.2 λj hj => ?_;obtain⟨h1,o,ho,_⟩:=mem_ready.1 hj;have hjs:j<ops.size:=(Array.getElem?_eq_some_iff.1 ho).1;have Xo:dX ops.size L=List.range ops.size:=by
     unfold dX;refine List.filter_eq_self.2 ?_;have:(List.filter (λj=>L.getD j false) (List.range ops.size)).length=(List.range ops.size).length:=by
      have:=hlen;unfold dX at this;rw[this];simp
     exact List.length_filter_eq_length_iff.1 this
    have:=(zf (L:=L) (n:=ops.size) (j:=j)).1 (by rw[Xo];exact List.mem_range.2 hjs);have hjl:j<L.size:=by omega
    simp[hjl]at h1 this;rw[h1]at this;cases this.2
   exact Bn _ _ _ hr (hdone L vs x hsz hcl hTx hr)
  |succ fuel ih =>
   intro L vs x hsz hcl hf hTx;refine hAs _ _ _ _ (hdone L vs x hsz hcl hTx) (λi hi o ho _ => ?_);obtain⟨h1,o',ho',gN⟩:=mem_ready.1 hi;rw[ho]at ho';obtain rfl:=Option.some.inj ho';have his:i<ops.size:=(Array.getElem?_eq_some_iff.1 ho).1;have hil:i<L.size:=by omega
   have hlf:L.getD i false=false:=by simp[hil]at h1 ⊢;exact h1
   obtain⟨⟨⟨hgd,hsel⟩,hlt⟩,lG,ZJ,hdd,hdN,Lu,Xp⟩:=hop i o ho;have El:∀ j∈ws.getD i [],L.getD j false=true:=by
    intro j hj;obtain⟨e,he,hb,rfl⟩:=(Ls i o ho j).1 hj;exact gN e he hb
   have hcl':mh ws L:=by
    intro j hj k hk;rcases Nat.lt_or_ge j L.size with h|h
    · exact hcl j _ (Array.getElem?_eq_getElem (by omega:j<ops.size)) hj k hk
    · simp[Array.getElem?_eq_none h]at hj
   have hg:=hstep i o ho L vs x hsz hlf El hcl' hTx;have Xq:execOp (aB ds vs (dX ops.size L) a).eval o=execOp (aB ds vs (ns.getD i []) a).eval o:=by
    refine execOp_congr o hsel λy hy => ?_;cases y with
    |tmp t =>
     have ht:t∈tmpsOf o:=List.mem_filterMap.2 ⟨.tmp t,by simpa using hy,rfl⟩;by_cases hex:∃ j∈ws.getD i [],ds.getD j none=some t
     · obtain⟨j,hj,hd⟩:=hex;have hjs:j<ops.size:=by have:=hlt j hj;omega
       have Lv:∀ k,k<ops.size->ds.getD k none=some t->k=j:=λk hk hkd=>by
        apply Classical.byContradiction;intro hne;exact(hop j _ (Array.getElem?_eq_getElem hjs)).2.2.2.1 k hk hne t hd hkd
       have PY:t<a.tmps.size:=by rw[hN];exact(hop j _ (Array.getElem?_eq_getElem hjs)).2.2.2.2.1 t hd
       rw[eval_at _ a (zf.2 ⟨hjs,El j hj⟩) hd PY (λk hk hkd=>Lv k (zf.1 hk).1 hkd),eval_at _ a (Xp t ht j hj hd) hd PY (λk hk hkd=>Lv k (by have:=hlt k (Lu k hk);omega) hkd)]
     · rw[rX _ a (λk hk t' ht' e => ?_),rX _ a (λk hk t' ht' e => ?_)]
       · simp only[Operand.tmp.injEq]at e;subst e;exact hex ⟨k,Lu k hk,ht'⟩
       · simp only[Operand.tmp.injEq]at e;subst e;obtain⟨hks,Gq⟩:=zf.1 hk;rcases lG t ht k hks ht' with h|h|h
         · exact hex ⟨k,h,ht'⟩
         · have:=hcl k _ (Array.getElem?_eq_getElem hks) Gq i h;rw[hlf]at this;cases this
         · subst h;rw[hlf]at Gq;cases Gq
    |_ =>
     rw[rX _ a (λk hk t' ht' e=>by cases e),rX _ a (λk hk t' ht' e=>by cases e)]
   refine⟨_,hcg _ _ _ _ _ Xq hg,?_⟩;intro v y ZK;rw[← hdst i o ho,← Uk his hlf hil hdd];refine ih (L.setIfInBounds i true) (upd vs i v) y (by simpa using hsz) ?_ ?_ ZK
   · intro j oj hj hlj k hk;by_cases hij:i=j
     · subst hij;exact getD_set_true (El k hk)
     · rw[getD_set_ne false hij]at hlj;exact getD_set_true (hcl j oj hj hlj k hk)
   · have hlen:(dX ops.size (L.setIfInBounds i true)).length=(dX ops.size L).length+1:=by
      have key:∀ js:List Nat,js.Nodup->i∈js->(js.filter λj=>(L.setIfInBounds i true).getD j false).length=(js.filter λj=>L.getD j false).length+1:=by
       intro js
       induction js with
       |nil=>intro _ h;cases h
       |cons j r ih2 =>
        intro hnd hmem;simp only[List.nodup_cons]at hnd;by_cases hji:j=i
        · subst hji;have hset:(L.setIfInBounds j true).getD j false=true:=by simp[hil]
          rw[List.filter_cons,List.filter_cons,if_pos hset,if_neg (by simp[hlf])];have e1:(r.filter λk=>(L.setIfInBounds j true).getD k false)=r.filter λk=>L.getD k false:=by
           apply List.filter_congr;intro k hk;exact getD_set_ne false (λe=>hnd.1 (e ▸ hk))
          rw[e1];simp
        · have hir:i∈r:=by
           rcases List.mem_cons.1 hmem with e|e
           · exact absurd e.symm hji
           · exact e
          have e2:(L.setIfInBounds i true).getD j false=L.getD j false:=getD_set_ne false (λe=>hji e.symm);by_cases hj:L.getD j false=true
          · rw[List.filter_cons,List.filter_cons,if_pos (by rw[e2];exact hj),if_pos hj];rw[List.length_cons,List.length_cons,ih2 hnd.2 hir]
          · rw[List.filter_cons,List.filter_cons,if_neg (by rw[e2];exact hj),if_neg hj];exact ih2 hnd.2 hir
      exact key _ List.nodup_range (List.mem_range.2 his)
     omega
 have h0:dX ops.size (Array.replicate ops.size false)=[]:=by
  unfold dX;rw[List.filter_eq_nil_iff];intro j hj;have:=List.mem_range.1 hj;simp[this]
 have hm0:=main ops.size (Array.replicate ops.size false) (λ_=>undef) w (by simp) (λj o ho hl=>by
  exfalso;by_cases hj:j<ops.size <;> simp[hj]at hl) (by omega) hI0
 rw[h0]at hm0;exact hm0
theorem IP {a:Act} {w:World} (N:Nat) (ds:List (Option Tmp)) (ws ns us:List (List Nat)) (hN:a.tmps.size=N) (hok:kS N ops ds ws ns us=true)
 (I:Array Bool->(Nat->Value)->World->Prop) (hI0:I (Array.replicate ops.size false) (λ_=>undef) w)
 (hstep:∀ i o,ops[i]? = some o->∀ (L:Array Bool) (vs:Nat->Value) (x:World),L.size=ops.size->L.getD i false=false->(∀ j∈ws.getD i [],L.getD j false=true)->mh ws L->I L vs x->Gives P o (aB ds vs (ns.getD i []) a) x (λv y=>I (L.setIfInBounds i true) (upd vs i v) y))
 (hend:∀ (L:Array Bool) (vs:Nat->Value) (x:World),(∀ j,j<ops.size->L.getD j false=true)->I L vs x->Q .normal (aB ds vs (List.range ops.size) a) x):wpAny P .any ops Q ops.size (Array.replicate ops.size false) a w :=
 Vr (wpAny P .any ops Q) (Gives P) (λ_ _ _ h1 h2=>⟨h1,h2⟩) (λfuel L a x h1 h2=>⟨h1,λi hi=>by
  obtain⟨-,o,ho,-⟩:=mem_ready.1 hi;unfold wpOp;rw[ho];by_cases hgd:o.guard=none
  · have hw:Region.wanted o (yielded ops a.tmps)=true:=by simp[Region.wanted,hgd]
    simp only[hw,if_true];obtain⟨R,hg,hR⟩:=h2 i hi o ho hgd;exact .inl (hg.wp hR)
  · exact(hgd (Vq hok ho)).elim⟩) (λo a a' x R e h=>by unfold Gives at h ⊢;rw[e];exact h) N ds ws ns us hN hok I hI0 hstep hend
end
end Go.Proofs.YtadecgbblajifaaGreatDoor
