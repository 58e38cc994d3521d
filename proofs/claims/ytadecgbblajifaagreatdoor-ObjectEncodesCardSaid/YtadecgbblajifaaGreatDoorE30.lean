import Derived.Test.YtadecgbblajifaaGreatDoorE23
import Derived.Orders
import Derived.Deep.RegionHeld
import Derived.TacticsInMore
set_option linter.unusedSimpArgs false
set_option linter.unusedVariables false
set_option maxRecDepth 100000
set_option maxHeartbeats 25600000
namespace Go.Proofs.YtadecgbblajifaaGreatDoor
end Go.Proofs.YtadecgbblajifaaGreatDoor
namespace Go.Proofs.YtadecgbblajifaaGreatDoor.DV
open Go
noncomputable section
variable {P:Program} {C:Cx} {B:Base} {r:Option Nat}
theorem Po {gl : Nat -> D} {f : Nat} {args : List D} {d : D} (hb : ((P.funcs[f]?).map λfn => fn.body.isSome && !(fn.name == "runtime.NumGoroutine")) = some true)
 (h:∀ g w vs,(∀ b c,g.fm b=some c->mem w b=some c)->(∀ i,VR g (gl i) (.pointer (some ⟨i,0,none⟩)))->aC g args vs->Calls P f ⟨vs⟩ w λe w'=>∃ v,e = .returned v/\(∀ k:G,(∀ b c,w.heap.size<=b->mem w' b=some c->k.fm b=some c)->VR k d v)/\(∀ b,b<w.heap.size->w'.heap[b]? = w.heap[b]?)/\w.heap.size<=w'.heap.size/\Sm w w'):Pure P gl f args d:=by
 intro g σ w vs R hgl hvs
 have hent:(callFunc f ⟨vs⟩).run P w = .ok (.enter f ⟨vs⟩) w:=by
  cases hq:P.funcs[f]? with
  |none=>rw[hq]at hb;simp at hb
  |some fn =>
   rw[hq]at hb
   simp only[Option.map_some,Option.some.injEq,Bool.and_eq_true,Bool.not_eq_true',beq_eq_false_iff_ne]at hb
   have h1:¬ fn.body=none:=by intro h;rw[h]at hb;simp at hb
   simp[callFunc,hq,hb.2,h1]
 refine .inl ⟨hent,(h g w vs R.fm hgl hvs).mono ?_⟩
 rintro e w' ⟨v,rfl,hv,h1,h2,h3⟩
 have vS:∀ b,b<w.heap.size->mem w' b=mem w b:=λb hb=>by unfold mem;rw[h1 b hb]
 generalize hk:(⟨λb=>if b<w.heap.size then g.fm b else mem w' b,g.ae⟩:G)=k0
 have bW:∀ b,k0.fm b=if b<w.heap.size then g.fm b else mem w' b:=λb=>by rw[← hk]
 have hkr:∀ i,k0.ae i=g.ae i:=λi=>by rw[← hk]
 have hle:Le g k0:=⟨λb c hb=>by
  rw[bW,if_pos (sG (R.fm b c hb))];exact hb,λi l hi=>by rw[hkr];exact hi⟩
 refine⟨v,rfl,k0,⟨λb c hb => ?_,λi d hi => ?_,λi j l m hi hj hl hm hb => ?_⟩,⟨hle,h2,λb hb=>h1 b ?_,λb hb => ?_,λi l hi => .inl (by rw[hkr]at hi;exact hi),λi hi => .inl hi,h3⟩,hv k0 λb c hb hc=>by rw[bW,if_neg (by omega)];exact hc⟩
 · rw[bW]at hb
   split at hb
   · rename_i hlt
     rw[vS b hlt]
     exact R.fm b c hb
   · exact hb
 · obtain⟨l,hl⟩:=R.ob i d hi
   exact⟨l,hl.keep hle (by rw[bW,if_pos hl.lt];exact hl.fm) (h1 _ hl.lt)⟩
 · rw[hkr]at hl hm
   exact R.dj i j l m hi hj hl hm hb
 · rcases Nat.lt_or_ge b w.heap.size with h|h
   · exact h
   · exact absurd (.inl h) hb
 · rw[bW]at hb
   split at hb
   · exact .inl hb
   · exact .inr (.inl (by omega))
theorem abM {T:dA} {σ:au} {id:Nat} {get:Operand->D} {s t el:Nat} {x:Operand} {ys yt ye:Ty} {tt:Bool} {ds:List D} {l:List UInt8} (hy:T s=some ys) (xe:T t=some yt) (hk:yt.k = .str) (hsl:ys.k = .sl el 1) (hye:T el=some ye) (hu:wz ye.k=true) (hx:get x = .sl tt 1 ds) (hb:bytesD ds=some l) :
 fH T σ id get (.convert s t x)=some (.lf (.string ⟨⟨l⟩⟩),[]):=by
 simp only[fH,J3,hy,xe,hk,hsl,Jp,gY,hye,hx,yO,hu,Et,jQ,Nat.beq_refl,if_true,hb,iG]
section
variable {ops:Array Oper} {base n i k:Nat} {t0 st0 tm st:List (Nat × Option D)} {acc:List Rc} {l:List Oper} {o:Oper} {K:S->Prop}
theorem dcv {s t el:Nat} {x:Operand} {ys yt ye:Ty} {tt:Bool} {ds:List D} {bl:List UInt8} (hw:eD ops tm o=some true) (hd:o.dst=some k) (hkn:Nat.blt k n=true) (ho:o.op = .convert s t x) (hy:C.T s=some ys) (xe:C.T t=some yt) (hk:yt.k = .str) (hsl:ys.k = .sl el 1) (hye:C.T el=some ye) (hu:wz ye.k=true)
 (hx:fG C.gl (aN ops o) tm x = .sl tt 1 ds) (hb:bytesD ds=some bl) (bf:jo i (gD o)=true) (hok:iA (eF [] ops.toList) (ll C ops i o (base+ops.size) tm (.lf (.string ⟨⟨bl⟩⟩)) []) acc=true)
 (h:dQ C ops base n t0 st0 (ll C ops i o (base+ops.size) tm (.lf (.string ⟨⟨bl⟩⟩)) [] :: acc) i.succ l ((k,some (.lf (.string ⟨⟨bl⟩⟩))) :: tm) st K):dQ C ops base n t0 st0 acc i (o :: l) tm st K :=
 Bf hw (by rw[ho];exact abM hy xe hk hsl hye hu hx hb) rfl bf hok (by simpa only[eU,hd,hkn,gI]using h)
end
end
end Go.Proofs.YtadecgbblajifaaGreatDoor.DV
namespace Go.Proofs.YtadecgbblajifaaGreatDoor
section
open Go.RowKit
def Closed (ops:Array Oper) (L:Array Bool):Prop:=L.size=ops.size/\∀ (j:Nat) (o:Oper),ops[j]? = some o->L.getD j false=true->∀ e∈o.after,Region.binds .any e=true->L.getD e.on false=true
section
variable {P:Program} {pre:List Oper} {o:Oper} {Q:Exit->Act->World->Prop}
theorem Closed.set {L:Array Bool} {i:Nat} (hc:Closed (pre ++ [o]).toArray L) (hr:i∈Region.ready .any (pre ++ [o]).toArray L):Closed (pre ++ [o]).toArray (L.setIfInBounds i true):=by
 refine⟨by simpa using hc.1,λj oj hj hl e he hb => ?_⟩
 by_cases hij:i=j
 · subst hij
   obtain⟨_,ox,hox,hall⟩:=mem_ready.1 hr
   rw[hj]at hox;cases hox
   exact getD_set_true (hall e he hb)
 · rw[getD_set_ne false hij]at hl
   exact getD_set_true (hc.2 j oj hj hl e he hb)
end
end
section
open Go.RowKit
def p9 (P:Program) (R:Value->World->Prop):Result Next->Prop
 |.ok (.value v) w'=>R v w'
 |.ok .skip w'=>R undef w'
 |.ok (.enter f args) w'=>Calls P f args w' λe w''=>∃ v,e = .returned v/\R v w''
 |.ok (.row row args) w'=>Rows P row args w' R
 |_=>False
def Gives (P:Program) (o:Oper) (a:Act) (w:World) (R:Value->World->Prop):Prop:=p9 P R ((execOp a.eval o).run P w)
theorem Gives.mono {P:Program} {o:Oper} {a:Act} {w:World} {R R':Value->World->Prop} (h:Gives P o a w R) (hr:∀ v w',R v w'->R' v w'):Gives P o a w R':=by
 unfold Gives at h ⊢
 generalize (execOp a.eval o).run P w=r at *
 cases r with
 |ok n w' =>
  cases n <;> simp only[p9]at h ⊢
  case value v=>exact hr _ _ h
  case skip=>exact hr _ _ h
  case enter f args =>
   refine Calls.mono h λe w'' he => ?_
   obtain⟨v,rfl,hv⟩:=he
   exact⟨v,rfl,hr _ _ hv⟩
  case row row args=>exact Rows.mono h λv w'' hv=>hr _ _ hv
 |halt x w'=>exact h.elim
theorem Gives.wp {P:Program} {o:Oper} {a:Act} {w:World} {R:Value->World->Prop} {K:Act->World->Prop} {Q:Exit->Act->World->Prop} (h:Gives P o a w R) (hK:∀ v w',R v w'->K (a.put o.dst v) w'):o.wp P a w K Q:=by
 unfold Gives at h
 unfold Oper.wp
 generalize (execOp a.eval o).run P w=r at *
 cases r with
 |ok n w' =>
  cases n <;> simp only[p9,Oper.upon]at h ⊢
  case value v=>exact hK _ _ h
  case skip=>exact hK _ _ h
  case enter f args =>
   refine Calls.mono h λe w'' he => ?_
   obtain⟨v,rfl,hr⟩:=he
   exact hK _ _ hr
  case row row args=>exact Rows.mono h λv w'' hr=>hK _ _ hr
 |halt x w'=>exact h.elim
def Qv (P:Program) (R:Value->World->Prop):Result Next->Prop
 |.ok (.round l f tmps assign body) w'=>RoundIn Fence.wide 0 P l f tmps assign body w' λe w''=>∃ v,e = .returned v/\R v w''
 |r=>p9 P R r
def sM (P:Program) (o:Oper) (a:Act) (w:World) (R:Value->World->Prop):Prop:=Qv P R ((execOp a.eval o).run P w)
theorem Gives.wide {P:Program} {o:Oper} {a:Act} {w:World} {R:Value->World->Prop} (h:Gives P o a w R):sM P o a w R:=by
 unfold Gives at h
 unfold sM
 generalize (execOp a.eval o).run P w=r at *
 cases r with
 |ok n w' =>
  cases n
  case round l f tmps assign body=>exact h.elim
  all_goals exact h
 |halt x w'=>exact h.elim
theorem Y8 {n m:Nat} {P:Program} {l:Nat} {f:FuncId} {tmps:Array Value} {assign body:Code} {w:World} {R:Ending->World->Prop} (h:RoundIn Fence.wide n P l f tmps assign body w R):RoundIn Fence.wide m P l f tmps assign body w R :=
 ⟨h.1,λc cs _=>h.2 c cs (room_wide _)⟩
theorem sM.wpIn {P:Program} {o:Oper} {a:Act} {w:World} {R:Value->World->Prop} {K:Act->World->Prop} {Q:Exit->Act->World->Prop} {n:Nat} (h:sM P o a w R) (hK:∀ v w',R v w'->K (a.put o.dst v) w'):o.wpIn Fence.wide n P a w K Q:=by
 unfold sM at h
 refine⟨λ_ _=>trivial,?_⟩
 rw[Fence.wide_round,Oper.semAt_none]
 generalize (execOp a.eval o).run P w=r at *
 cases r with
 |ok n' w' =>
  cases n' <;> simp only[Qv,p9,Oper.uponIn]at h ⊢
  case value v=>exact hK _ _ h
  case skip=>exact hK _ _ h
  case enter f args =>
   refine⟨λe=>by simp[Fence.wide]at e,callsIn_wide.2 (Calls.mono h λe w'' he => ?_)⟩
   obtain⟨v,rfl,hr⟩:=he
   exact hK _ _ hr
  case row row args =>
   refine⟨λe=>by simp[Fence.wide]at e,λc cs _ => ?_⟩
   obtain⟨v,w'',hr,s⟩:=h c cs
   exact⟨v,w'',hK _ _ hr,stepsIn_wide.2 s⟩
  case round l f tmps assign body =>
   refine⟨λe=>by simp[Fence.wide]at e,Y8 (RoundIn.mono h λe w'' he => ?_)⟩
   obtain⟨v,rfl,hr⟩:=he
   exact hK _ _ hr
 |halt x w'=>exact h.elim
def dstsOf (ops:Array Oper):List (Option Tmp):=ops.toList.map (·.dst)
def eZ (ops:Array Oper):List (List Nat):=ops.toList.map λo=>(o.after.toList.filter (Region.binds .any)).map (·.on)
def EK (o:Oper):Bool:=match o.op with
 |.select _ _=>false
 |_=>true
def tmpsOf (o:Oper):List Tmp:=o.op.operands.toList.filterMap fun | .tmp t=>some t|_=>none
def iR (N:Nat) (ops:Array Oper) (ds:List (Option Tmp)) (ws ns us:List (List Nat)):Bool :=
 (dstsOf ops == ds) && (eZ ops == ws) && (List.range ops.size).all λi=>match ops[i]? with
  |none=>false
  |some o=>o.guard.isNone && EK o && ((ws.getD i []).all λj=>decide (j<i)) &&
   ((tmpsOf o).all λt=>(List.range ops.size).all λj=>(ds.getD j none != some t) || (ws.getD i []).contains j || (ws.getD j []).contains i || (i == j)) &&
   ((us.getD i []).all λk=>k == i || (ws.getD i []).contains k) &&
   ((List.range ops.size).all λj=>j == i || (ds.getD i none).isNone || ds.getD j none != ds.getD i none) &&
   (match ds.getD i none with|some d=>decide (d<N)|none=>true) &&
   ((ns.getD i []).all λj=>(ws.getD i []).contains j) && ((tmpsOf o).all λt=>(ws.getD i []).all λj=>(ds.getD j none != some t) || (ns.getD i []).contains j)
def ai (ds:List (Option Tmp)) (vs:Nat->Value):List Nat->Act->Act
 | [],a=>a
 |j :: r,a=>ai ds vs r (a.put (ds.getD j none) (vs j))
def upd (vs:Nat->Value) (i:Nat) (v:Value):Nat->Value:=λk=>if k=i then v else vs k
theorem Pp {ds:List (Option Tmp)} {vs:Nat->Value} {d:Option Tmp} {v:Value} : ∀ (js:List Nat) (a:Act),(∀ j∈js,∀ t,d=some t->ds.getD j none≠some t)->ai ds vs js (a.put d v)=(ai ds vs js a).put d v
 | [],a,_=>rfl
 |j :: r,a,h=>by
  simp only[ai]
  rw[Act.put_comm a v (vs j) (λt ht=>h j (by simp) t ht)]
  exact Pp r _ (λk hk=>h k (by simp[hk]))
theorem Ad {ds:List (Option Tmp)} {vs us:Nat->Value} : ∀ (js:List Nat) (a:Act),(∀ j∈js,vs j=us j)->ai ds vs js a=ai ds us js a
 | [],a,_=>rfl
 |j :: r,a,h=>by
  simp only[ai]
  rw[h j (by simp)]
  exact Ad r _ (λk hk=>h k (by simp[hk]))
theorem kM {ds:List (Option Tmp)} {vs:Nat->Value} {x:Operand} : ∀ (js:List Nat) (a:Act),(∀ j∈js,∀ t,ds.getD j none=some t->x ≠ .tmp t)->(ai ds vs js a).eval x=a.eval x
 | [],a,_=>rfl
 |j :: r,a,h=>by
  simp only[ai]
  rw[kM r _ (λk hk=>h k (by simp[hk]))]
  exact Act.eval_put (λt ht=>h j (by simp) t ht)
theorem eval_at {ds:List (Option Tmp)} {vs:Nat->Value} {t:Tmp} {j:Nat} : ∀ (js:List Nat) (a:Act),j∈js->ds.getD j none=some t->t<a.tmps.size->(∀ k∈js,ds.getD k none=some t->k=j)->(ai ds vs js a).eval (.tmp t)=vs j
 | [],a,h,_,_,_=>by cases h
 |k :: r,a,h,hd,hs,hu=>by
  simp only[ai]
  by_cases hr:j∈r
  · refine eval_at r _ hr hd ?_ (λk' hk'=>hu k' (by simp[hk']))
    cases ds.getD k none <;> simpa[Act.put]using hs
  · have hjk:j=k:=by
     rcases List.mem_cons.1 h with e|e
     · exact e
     · exact absurd e hr
    subst hjk
    rw[kM r _ (λk hk t' ht' e=>by
     simp only[Operand.tmp.injEq]at e
     subst e
     exact hr ((hu k (by simp[hk]) ht') ▸ hk))]
    rw[hd]
    simp[Act.eval,Act.put,hs]
def aY (n:Nat) (L:Array Bool):List Nat:=(List.range n).filter λj=>L.getD j false
theorem mG {n:Nat} {L:Array Bool} {j:Nat} : j∈aY n L↔j<n/\L.getD j false=true:=by simp[aY]
def lJ (f:Nat->Oper->Prop):Nat->List Oper->Prop
 |_,[]=>True
 |i,o :: r=>f i o/\lJ f (i+1) r
theorem Ae {f:Nat->Oper->Prop} : ∀ (l:List Oper) (k:Nat),lJ f k l->∀ i o,l[i]? = some o->f (k+i) o
 | [],k,_,i,o,h=>by simp at h
 |x :: r,k,h,0,o,ho=>by simp at ho;subst ho;exact h.1
 |x :: r,k,h,i+1,o,ho=>by
  have:=Ae r (k+1) h.2 i o (by simpa using ho)
  rw[show k+(i+1)=k+1+i by omega];exact this
theorem Dk {f g:Nat->Oper->Prop} (h:∀ i o,f i o->g i o):∀ (l:List Oper) (k:Nat),lJ f k l->lJ g k l
 | [],_,_=>trivial
 |x :: r,k,hs=>⟨h _ _ hs.1,Dk h r (k+1) hs.2⟩
section
variable {P:Program} {ops:Array Oper} {Q:Exit->Act->World->Prop}
theorem IZ {ds:List (Option Tmp)} {vs:Nat->Value} {n i:Nat} {L:Array Bool} {v:Value} {a:Act} (hi:i<n) (hl:L.getD i false=false) (hsz:i<L.size) (hd:∀ j,j<n->j≠i->∀ t,ds.getD i none=some t->ds.getD j none≠some t) :
 ai ds (upd vs i v) (aY n (L.setIfInBounds i true)) a=(ai ds vs (aY n L) a).put (ds.getD i none) v:=by
 have key:∀ (js:List Nat) (a:Act),js.Nodup->(∀ j∈js,j<n)->i∈js->ai ds (upd vs i v) (js.filter λj=>(L.setIfInBounds i true).getD j false) a=(ai ds vs (js.filter λj=>L.getD j false) a).put (ds.getD i none) v:=by
  intro js
  induction js with
  |nil=>intro a _ _ h;cases h
  |cons j r ih =>
   intro a hnd hlt hm
   simp only[List.nodup_cons]at hnd
   have hrest:∀ (a:Act),i ∉ r->ai ds (upd vs i v) (r.filter λj=>(L.setIfInBounds i true).getD j false) a=ai ds vs (r.filter λj=>L.getD j false) a:=by
    intro a hir
    have e1:(r.filter λj=>(L.setIfInBounds i true).getD j false)=r.filter λj=>L.getD j false:=by
     apply List.filter_congr
     intro k hk
     exact getD_set_ne false (λe=>hir (e ▸ hk))
    rw[e1]
    exact Ad _ _ (λk hk=>by
     have:k≠i:=λe=>hir (e ▸ (List.mem_filter.1 hk).1)
     simp[upd,this])
   by_cases hji:j=i
   · subst hji
     have hset:(L.setIfInBounds j true).getD j false=true:=by simp[hsz]
     rw[List.filter_cons,List.filter_cons,if_pos hset,if_neg (by simp[hl])]
     simp only[ai]
     rw[hrest _ hnd.1]
     have:upd vs j v j=v:=by simp[upd]
     rw[this]
     exact Pp _ _ (λk hk t ht=>hd k (hlt k (by simp[(List.mem_filter.1 hk).1])) (λe=>hnd.1 (e ▸ (List.mem_filter.1 hk).1)) t ht)
   · have hir:i∈r:=by
      rcases List.mem_cons.1 hm with e|e
      · exact absurd e.symm hji
      · exact e
     have e2:(L.setIfInBounds i true).getD j false=L.getD j false:=getD_set_ne false (λe=>hji e.symm)
     have e3:upd vs i v j=vs j:=by simp[upd,hji]
     by_cases hj:L.getD j false=true
     · rw[List.filter_cons,List.filter_cons,if_pos (by rw[e2];exact hj),if_pos hj]
       simp only[ai,e3]
       exact ih _ hnd.2 (λk hk=>hlt k (by simp[hk])) hir
     · rw[List.filter_cons,List.filter_cons,if_neg (by rw[e2];exact hj),if_neg hj]
       exact ih _ hnd.2 (λk hk=>hlt k (by simp[hk])) hir
 exact key (List.range n) a List.nodup_range (λj hj=>List.mem_range.1 hj) (List.mem_range.2 hi)
theorem Xa {id:Nat} {n:Nat} {a:Act} {w:World} (hm:P.follows .mixedOrders=true) (N:Nat) (ds:List (Option Tmp)) (ws ns us ks:List (List Nat)) (hN:a.tmps.size=N) (hok:iR N ops ds ws ns us=true)
 (T:World->World->Prop) (hT0:∀ w,T w w) (oK:∀ x y z,T x y->T y z->T x z)
 (Y:Nat->List Value->World->Prop)
 (hstep:∀ i o,ops[i]? = some o->∀ (vs:Nat->Value) (x:World),T w.drew x->(∀ j∈ws.getD i [],(∀ k∈ks.getD j [],k=i\/i∈ws.getD k [])->Y j ((us.getD j []).map vs) x)->sM P o (ai ds vs (ns.getD i []) a) x (λv y=>T x y/\Y i ((us.getD i []).map (upd vs i v)) y/\∀ j l,j≠i->i ∉ ks.getD j []->i ∉ ws.getD j []->(∀ k∈ks.getD j [],k ∉ ws.getD i [])->Y j l x->Y j l y))
 (hend:∀ (vs:Nat->Value) (x:World),T w.drew x->(∀ j,j<ops.size->ks.getD j []=[]->Y j ((us.getD j []).map vs) x)->Q .normal (ai ds vs (List.range ops.size) a) x):(Code.region id ops true).wpIn Fence.wide n P Q a w:=by
 simp only[iR,Bool.and_eq_true]at hok
 obtain⟨⟨hds,hws⟩,hall⟩:=hok
 have hds:=eq_of_beq hds
 have hws:=eq_of_beq hws
 have hdst:∀ i o,ops[i]? = some o->ds.getD i none=o.dst:=by
  intro i o ho
  rw[← hds]
  simp[dstsOf,ho]
 have sW:∀ i o,ops[i]? = some o->∀ j,j∈ws.getD i []↔∃ e∈o.after,Region.binds .any e=true/\e.on=j:=by
  intro i o ho j
  rw[← hws]
  simp[eZ,ho,and_assoc]
 have hop:∀ i o,ops[i]? = some o->((o.guard=none/\(∀ cs b,o.op ≠ .select cs b))/\(∀ j∈ws.getD i [],j<i))/\(∀ t∈tmpsOf o,∀ j,j<ops.size->ds.getD j none=some t->j∈ws.getD i []\/i∈ws.getD j []\/i=j)/\(∀ k∈us.getD i [],k=i\/k∈ws.getD i [])/\(∀ j,j<ops.size->j≠i->∀ t,ds.getD i none=some t->ds.getD j none≠some t)/\(∀ d,ds.getD i none=some d->d<N)/\(∀ j∈ns.getD i [],j∈ws.getD i [])/\(∀ t∈tmpsOf o,∀ j∈ws.getD i [],ds.getD j none=some t->j∈ns.getD i []):=by
  intro i o ho
  have hi:i<ops.size:=(Array.getElem?_eq_some_iff.1 ho).1
  have h:=List.all_eq_true.1 hall i (List.mem_range.2 hi)
  rw[ho]at h
  simp only[Bool.and_eq_true]at h
  obtain⟨⟨⟨⟨⟨⟨⟨⟨h1,h2⟩,h3⟩,h4⟩,h5⟩,h6⟩,h7⟩,h8⟩,h9⟩:=h
  refine⟨⟨⟨by simpa using h1,λcs b e=>by simp[EK,e]at h2⟩,λj hj=>by simpa using List.all_eq_true.1 h3 j hj⟩,λt ht j hj hd => ?_,λk hk => ?_,λj hj hne t hdi hdj => ?_,λd hd => ?_,λj hj=>by simpa using List.all_eq_true.1 h8 j hj,λt ht j hj hd => ?_⟩
  · have:=List.all_eq_true.1 (List.all_eq_true.1 h4 t ht) j (List.mem_range.2 hj)
    rw[hd]at this
    simp at this
    rcases this with(h|h)|h
    · exact .inl (by simpa using h)
    · exact .inr (.inl (by simpa using h))
    · exact .inr (.inr h)
  · have:=List.all_eq_true.1 h5 k hk
    simp at this
    rcases this with h|h
    · exact .inl h
    · exact .inr (by simpa using h)
  · have:=List.all_eq_true.1 h6 j (List.mem_range.2 hj)
    rw[hdi,hdj]at this
    simp at this
    exact hne this
  · rw[hd]at h7;simpa using h7
  · have:=List.all_eq_true.1 (List.all_eq_true.1 h9 t ht) j hj
    rw[hd]at this
    simpa using this
 clear hall
 have main:∀ (fuel:Nat) (L:Array Bool) (vs:Nat->Value) (x:World),L.size=ops.size->(∀ j o,ops[j]? = some o->L.getD j false=true->∀ k∈ws.getD j [],L.getD k false=true)->ops.size<=fuel+(aY ops.size L).length->T w.drew x->(∀ j,L.getD j false=true->(∀ k∈ks.getD j [],L.getD k false=false)->Y j ((us.getD j []).map vs) x)->wpAnyIn Fence.wide n P .any ops Q fuel L (ai ds vs (aY ops.size L) a) x:=by
  have hdone:∀ (L:Array Bool) (vs:Nat->Value) (x:World),L.size=ops.size->(∀ j o,ops[j]? = some o->L.getD j false=true->∀ k∈ws.getD j [],L.getD k false=true)->T w.drew x->(∀ j,L.getD j false=true->(∀ k∈ks.getD j [],L.getD k false=false)->Y j ((us.getD j []).map vs) x)->Region.ready .any ops L=[]->Q .normal (ai ds vs (aY ops.size L) a) x:=by
   intro L vs x hsz hcl hTx hY hr
   have sZ:∀ (n:Nat),n<=ops.size->∀ j,j<n->L.getD j false=true:=by
    intro n
    induction n with
    |zero=>intro _ j hj;omega
    |succ n ih =>
     intro hn j hj
     rcases Nat.lt_or_ge j n with h|h
     · exact ih (by omega) j h
     · obtain rfl:j=n:=by omega
       have hjs:j<ops.size:=by omega
       cases hlj:L.getD j false with
       |true=>rfl
       |false =>
        exfalso
        have:j∈Region.ready .any ops L:=by
         refine mem_ready.2 ⟨?_,ops[j],Array.getElem?_eq_getElem hjs,λe he hb => ?_⟩
         · have:j<L.size:=by omega
           simp[this]at hlj ⊢;exact hlj
         · have hw:=(sW j _ (Array.getElem?_eq_getElem hjs) e.on).2 ⟨e,he,hb,rfl⟩
           exact ih (by omega) e.on ((hop j _ (Array.getElem?_eq_getElem hjs)).1.2 _ hw)
        rw[hr]at this;cases this
   have hup:aY ops.size L=List.range ops.size:=by
    unfold aY
    exact List.filter_eq_self.2 (λj hj=>sZ ops.size (Nat.le_refl _) j (List.mem_range.1 hj))
   rw[hup]
   exact hend vs x hTx (λj hj hk=>hY j (sZ ops.size (Nat.le_refl _) j hj) (λk hk'=>by rw[hk]at hk';cases hk'))
  intro fuel
  induction fuel with
  |zero =>
   intro L vs x hsz hcl hf hTx hY
   have hlen:(aY ops.size L).length=ops.size:=by
    have h1:(aY ops.size L).length<=(List.range ops.size).length:=List.length_filter_le _ _
    simp at h1;omega
   have hr:Region.ready .any ops L=[]:=by
    refine List.eq_nil_iff_forall_not_mem.2 λj hj => ?_
    obtain⟨h1,o,ho,_⟩:=mem_ready.1 hj
    have hjs:j<ops.size:=(Array.getElem?_eq_some_iff.1 ho).1
    have Bl:aY ops.size L=List.range ops.size:=by
     unfold aY
     refine List.filter_eq_self.2 ?_
     have:(List.filter (λj=>L.getD j false) (List.range ops.size)).length=(List.range ops.size).length:=by
      have:=hlen;unfold aY at this;rw[this];simp
     exact List.length_filter_eq_length_iff.1 this
    have:=(mG (L:=L) (n:=ops.size) (j:=j)).1 (by rw[Bl];exact List.mem_range.2 hjs)
    have hjl:j<L.size:=by omega
    simp[hjl]at h1 this
    rw[h1]at this;cases this.2
   exact⟨hr,hdone L vs x hsz hcl hTx hY hr⟩
  |succ fuel ih =>
   intro L vs x hsz hcl hf hTx hY
   refine⟨hdone L vs x hsz hcl hTx hY,λi hi => ?_⟩
   obtain⟨h1,o,ho,bf⟩:=mem_ready.1 hi
   have his:i<ops.size:=(Array.getElem?_eq_some_iff.1 ho).1
   have hil:i<L.size:=by omega
   have hlf:L.getD i false=false:=by simp[hil]at h1 ⊢;exact h1
   obtain⟨⟨⟨hgd,hsel⟩,hlt⟩,jy,LH,hdd,hdN,tq,Bn⟩:=hop i o ho
   have kR:∀ j∈ws.getD i [],L.getD j false=true:=by
    intro j hj
    obtain⟨e,he,hb,rfl⟩:=(sW i o ho j).1 hj
    exact bf e he hb
   have hg:=hstep i o ho vs x hTx (λj hj hk=>hY j (kR j hj) (λk hk'=>by
    rcases hk k hk' with e|e
    · rw[e];exact hlf
    · cases hlk:L.getD k false with
      |false=>rfl
      |true =>
       have hks:k<ops.size:=by
        rcases Nat.lt_or_ge k L.size with h|h
        · omega
        · simp[Array.getElem?_eq_none h]at hlk
       have:=hcl k _ (Array.getElem?_eq_getElem hks) hlk i e
       rw[hlf]at this;cases this))
   have Bo:execOp (ai ds vs (aY ops.size L) a).eval o=execOp (ai ds vs (ns.getD i []) a).eval o:=by
    refine execOp_congr o hsel λy hy => ?_
    cases y with
    |tmp t =>
     have ht:t∈tmpsOf o:=List.mem_filterMap.2 ⟨.tmp t,by simpa using hy,rfl⟩
     by_cases hex:∃ j∈ws.getD i [],ds.getD j none=some t
     · obtain⟨j,hj,hd⟩:=hex
       have hjs:j<ops.size:=by have:=hlt j hj;omega
       have tC:∀ k,k<ops.size->ds.getD k none=some t->k=j:=λk hk hkd=>by
        apply Classical.byContradiction
        intro hne
        exact(hop j _ (Array.getElem?_eq_getElem hjs)).2.2.2.1 k hk hne t hd hkd
       have uO:t<a.tmps.size:=by rw[hN];exact(hop j _ (Array.getElem?_eq_getElem hjs)).2.2.2.2.1 t hd
       rw[eval_at _ a (mG.2 ⟨hjs,kR j hj⟩) hd uO (λk hk hkd=>tC k (mG.1 hk).1 hkd),eval_at _ a (Bn t ht j hj hd) hd uO (λk hk hkd=>tC k (by have:=hlt k (tq k hk);omega) hkd)]
     · rw[kM _ a (λk hk t' ht' e => ?_),kM _ a (λk hk t' ht' e => ?_)]
       · simp only[Operand.tmp.injEq]at e
         subst e
         exact hex ⟨k,tq k hk,ht'⟩
       · simp only[Operand.tmp.injEq]at e
         subst e
         obtain⟨hks,oN⟩:=mG.1 hk
         rcases jy t ht k hks ht' with h|h|h
         · exact hex ⟨k,h,ht'⟩
         · have:=hcl k _ (Array.getElem?_eq_getElem hks) oN i h
           rw[hlf]at this;cases this
         · subst h
           rw[hlf]at oN;cases oN
    |_ =>
     rw[kM _ a (λk hk t' ht' e=>by cases e),kM _ a (λk hk t' ht' e=>by cases e)]
   unfold wpOpIn
   rw[ho]
   have hw:Region.wanted o (yielded ops (ai ds vs (aY ops.size L) a).tmps)=true:=by simp[Region.wanted,hgd]
   simp only[hw,if_true]
   refine sM.wpIn (R:=λv y=>T x y/\Y i ((us.getD i []).map (upd vs i v)) y/\∀ j l,j≠i->i ∉ ks.getD j []->i ∉ ws.getD j []->(∀ k∈ks.getD j [],k ∉ ws.getD i [])->Y j l x->Y j l y) (by unfold sM at hg ⊢;rw[Bo];exact hg) ?_
   rintro v y ⟨hTy,Mm,Mo⟩
   rw[← hdst i o ho,← IZ his hlf hil hdd]
   refine ih (L.setIfInBounds i true) (upd vs i v) y (by simpa using hsz) ?_ ?_ (oK _ _ _ hTx hTy) ?_
   · intro j oj hj hlj k hk
     by_cases hij:i=j
     · subst hij;exact getD_set_true (kR k hk)
     · rw[getD_set_ne false hij]at hlj
       exact getD_set_true (hcl j oj hj hlj k hk)
   · have hlen:(aY ops.size (L.setIfInBounds i true)).length=(aY ops.size L).length+1:=by
      have key:∀ js:List Nat,js.Nodup->i∈js->(js.filter λj=>(L.setIfInBounds i true).getD j false).length=(js.filter λj=>L.getD j false).length+1:=by
       intro js
       induction js with
       |nil=>intro _ h;cases h
       |cons j r ih2 =>
        intro hnd hmem
        simp only[List.nodup_cons]at hnd
        by_cases hji:j=i
        · subst hji
          have hset:(L.setIfInBounds j true).getD j false=true:=by simp[hil]
          rw[List.filter_cons,List.filter_cons,if_pos hset,if_neg (by simp[hlf])]
          have e1:(r.filter λk=>(L.setIfInBounds j true).getD k false)=r.filter λk=>L.getD k false:=by
           apply List.filter_congr
           intro k hk
           exact getD_set_ne false (λe=>hnd.1 (e ▸ hk))
          rw[e1];simp
        · have hir:i∈r:=by
           rcases List.mem_cons.1 hmem with e|e
           · exact absurd e.symm hji
           · exact e
          have e2:(L.setIfInBounds i true).getD j false=L.getD j false:=getD_set_ne false (λe=>hji e.symm)
          by_cases hj:L.getD j false=true
          · rw[List.filter_cons,List.filter_cons,if_pos (by rw[e2];exact hj),if_pos hj]
            rw[List.length_cons,List.length_cons,ih2 hnd.2 hir]
          · rw[List.filter_cons,List.filter_cons,if_neg (by rw[e2];exact hj),if_neg hj]
            exact ih2 hnd.2 hir
      exact key _ List.nodup_range (List.mem_range.2 his)
     omega
   · intro j hlj hkl
     by_cases hij:i=j
     · subst hij;exact Mm
     · rw[getD_set_ne false hij]at hlj
       have hnk:i ∉ ks.getD j []:=λhk=>by
        have:=hkl i hk
        simp[hil]at this
       have uh:∀ k∈ks.getD j [],L.getD k false=false:=λk hk=>by
        have:=hkl k hk
        have hik:i≠k:=λe=>hnk (by rw[e];exact hk)
        rw[getD_set_ne false hik]at this
        exact this
       have hjl:j<ops.size:=by
        rcases Nat.lt_or_ge j L.size with h|h
        · omega
        · simp[Array.getElem?_eq_none h]at hlj
       have e:(us.getD j []).map (upd vs i v)=(us.getD j []).map vs:=by
        apply List.map_congr_left
        intro k hk
        have hki:k≠i:=by
         intro e
         subst e
         rcases(hop j _ (Array.getElem?_eq_getElem hjl)).2.2.1 k hk with h|h
         · exact hij h
         · have:=hcl j _ (Array.getElem?_eq_getElem hjl) hlj k h
           rw[hlf]at this;cases this
        simp[upd,hki]
       rw[e]
       exact Mo _ _ (λe=>hij e.symm) hnk (λhw=>by have:=hcl j _ (Array.getElem?_eq_getElem hjl) hlj i hw;rw[hlf]at this;cases this) (λk hk hw=>by have:=kR k hw;rw[uh k hk]at this;cases this) (hY j hlj uh)
 have h0:aY ops.size (Array.replicate ops.size false)=[]:=by
  unfold aY
  rw[List.filter_eq_nil_iff]
  intro j hj
  have:=List.mem_range.1 hj
  simp[this]
 have hm0:=main ops.size (Array.replicate ops.size false) (λ_=>undef) w.drew (by simp) (λj o ho hl=>by
  exfalso
  by_cases hj:j<ops.size <;> simp[hj]at hl) (by omega) (hT0 _) (λj hl _=>by
  exfalso
  by_cases hj:j<ops.size <;> simp[hj]at hl)
 rw[h0]at hm0
 exact wpIn_region_any hm hm0
theorem Xn {id:Nat} {a:Act} {w:World} (hm:P.follows .mixedOrders=true) (N:Nat) (ds:List (Option Tmp)) (ws ns us ks:List (List Nat)) (hN:a.tmps.size=N) (hok:iR N ops ds ws ns us=true)
 (T:World->World->Prop) (hT0:∀ w,T w w) (oK:∀ x y z,T x y->T y z->T x z)
 (Y:Nat->List Value->World->Prop)
 (hstep:∀ i o,ops[i]? = some o->∀ (vs:Nat->Value) (x:World),T w.drew x->(∀ j∈ws.getD i [],(∀ k∈ks.getD j [],k=i\/i∈ws.getD k [])->Y j ((us.getD j []).map vs) x)->Gives P o (ai ds vs (ns.getD i []) a) x (λv y=>T x y/\Y i ((us.getD i []).map (upd vs i v)) y/\∀ j l,j≠i->i ∉ ks.getD j []->i ∉ ws.getD j []->(∀ k∈ks.getD j [],k ∉ ws.getD i [])->Y j l x->Y j l y))
 (hend:∀ (vs:Nat->Value) (x:World),T w.drew x->(∀ j,j<ops.size->ks.getD j []=[]->Y j ((us.getD j []).map vs) x)->Q .normal (ai ds vs (List.range ops.size) a) x):(Code.region id ops true).wp P Q a w :=
 (wpIn_wide (n:=0)).1 (Xa hm N ds ws ns us ks hN hok T hT0 oK Y (λi o ho vs x hx hY=>(hstep i o ho vs x hx hY).wide) hend)
theorem WX {id:Nat} {a:Act} {w:World} {l:List Oper} (hm:P.follows .mixedOrders=true) (N:Nat) (ds:List (Option Tmp)) (ws ns us ks:List (List Nat)) (hN:a.tmps.size=N) (hok:iR N l.toArray ds ws ns us=true)
 (T:World->World->Prop) (hT0:∀ w,T w w) (oK:∀ x y z,T x y->T y z->T x z)
 (Y:Nat->List Value->World->Prop)
 (hstep:lJ (λi o=>∀ (vs:Nat->Value) (x:World),T w.drew x->(∀ j∈ws.getD i [],(∀ k∈ks.getD j [],k=i\/i∈ws.getD k [])->Y j ((us.getD j []).map vs) x)->Gives P o (ai ds vs (ns.getD i []) a) x (λv y=>T x y/\Y i ((us.getD i []).map (upd vs i v)) y/\∀ j l,j≠i->i ∉ ks.getD j []->i ∉ ws.getD j []->(∀ k∈ks.getD j [],k ∉ ws.getD i [])->Y j l x->Y j l y)) 0 l)
 (hend:∀ (vs:Nat->Value) (x:World),T w.drew x->(∀ j,j<l.length->ks.getD j []=[]->Y j ((us.getD j []).map vs) x)->Q .normal (ai ds vs (List.range l.length) a) x):(Code.region id l.toArray true).wp P Q a w :=
 Xn hm N ds ws ns us ks hN hok T hT0 oK Y (λi o ho=>by have:=Ae l 0 hstep i o (by simpa using ho);simpa using this) (by simpa using hend)
theorem Dg {id:Nat} {a:Act} {w:World} {l:List Oper} (hm:P.follows .mixedOrders=true) (N:Nat) (ds:List (Option Tmp)) (ws ns us ks:List (List Nat)) (hN:a.tmps.size=N) (hok:iR N l.toArray ds ws ns us=true)
 (T:World->World->Prop) (hT0:∀ w,T w w) (oK:∀ x y z,T x y->T y z->T x z)
 (Y:Nat->List Value->World->Prop)
 (hstep:lJ (λi o=>∀ (vs:Nat->Value) (x:World),T w.drew x->(∀ j∈ws.getD i [],(∀ k∈ks.getD j [],k=i\/i∈ws.getD k [])->Y j ((us.getD j []).map vs) x)->Gives P o (ai ds vs (ns.getD i []) a) x (λv y=>T x y/\Y i ((us.getD i []).map (upd vs i v)) y/\∀ j l,j≠i->i ∉ ks.getD j []->Y j l x->Y j l y)) 0 l)
 (hend:∀ (vs:Nat->Value) (x:World),T w.drew x->(∀ j,j<l.length->ks.getD j []=[]->Y j ((us.getD j []).map vs) x)->Q .normal (ai ds vs (List.range l.length) a) x):(Code.region id l.toArray true).wp P Q a w :=
 WX hm N ds ws ns us ks hN hok T hT0 oK Y (Dk (λi o h vs x hx hY=>(h vs x hx hY).mono λv y hr=>⟨hr.1,hr.2.1,λj l hj hk _ _=>hr.2.2 j l hj hk⟩) l 0 hstep) hend
end
end
end Go.Proofs.YtadecgbblajifaaGreatDoor
