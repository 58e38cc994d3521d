import Derived.Test.YtnobahchcongnaaGreatF28
import Derived.Test.YtnobahchcongnaaGreatF30
set_option linter.unusedSimpArgs false
set_option linter.unusedVariables false
set_option maxRecDepth 100000
set_option maxHeartbeats 25600000
namespace Go.Proofs.YtnobahchcongnaaGreat
open Go.RowKit Go.Instr
def Ll (q:Value->Prop) (w:World) (v:Value):Prop:=∀ g cur t z,v.ownBlock=some g->w.heap[g]? = some (.cells cur t z)->∀ u∈cur.toList,q u
theorem NA (z:Array Value) (n:Nat) (u:Value) (h:u∈(Builtin.zeroCells z n).toList):u∈z.toList:=by
 simp only[Builtin.zeroCells,Array.toList_map,List.mem_map,Array.toList_range,List.mem_range]at h;obtain⟨i,hi,rfl⟩:=h;have hp:0<z.size:=by
  rcases Nat.eq_zero_or_pos z.size with h0|h0
  · rw[h0]at hi;simp at hi
  · exact h0
 have hm:=Nat.mod_lt i hp;rw[getElem!_pos z (i % z.size) hm];exact Array.getElem_mem_toList hm
section
variable {P:Program} {t e:TypeId} {n bytes:Nat} {α:Type} {f:α->List Value}
theorem YU (q:Value->Prop) (E:Elem P t e n bytes) (hf:∀ x,(f x).length=n) (hz:∀ i z,P.info? e=some i->i.zero=some z->∀ u∈z.cells.toList,q u) (v s:Value) (xs l:List α) (base:Nat) (w:World) (hrow:w.ownsRow base e n v xs.length (flat f xs)) (hq:Ll q w v) (hs:ax n f w s l) (h1:∀ x∈l,∀ u∈f x,u.oneCell'=true/\q u) (hlen:xs.length+l.length<=1000000) (h0:0<l.length) :
 Ll q (appW P t t v s w) (nV P t t v s w):=by
 obtain⟨i,z,hi,hiz,hsz,hby,hzc⟩:=E.hi;have Ut:=hz i z hi hiz;obtain⟨sa,sc,rfl,hsc,hsl,hcell⟩:=hs;have hnq:∀ u∈flat f l,u.oneCell'=true/\q u:=λu hu=>by
  simp only[flat,List.mem_flatten,List.mem_map]at hu;obtain⟨_,⟨o,ho,rfl⟩,hu⟩:=hu;exact h1 o ho u hu
 cases sa with
 |none =>
  cases l with
  |nil=>simp at h0
  |cons x l=>obtain⟨b,off,e,_⟩:=hcell 0 x rfl;cases e
 |some a =>
  have hnews:∀ j u,(flat f l)[j]? = some u->w.cell? (a.add j)=some u:=λj u hu=>by
   obtain⟨i',r,rfl,hi',hu⟩:=flat_get _ n E.hn hf l j u hu;obtain⟨b,off,e1,hc⟩:=hcell i' _ (List.getElem?_eq_getElem hi');simp only[Option.some.injEq]at e1;subst e1;have:=hc r u hu;have e2:(⟨b,off,none⟩:Addr).add (i' * n+r)=⟨b,off+i' * n+r,none⟩:=by unfold Addr.add;split <;> simp_all [Nat.add_assoc]
   rw[e2];exact this
  have FQ:(xs.length+l.length) * bytes<=140737488355328:=by
   have:=Nat.mul_le_mul hlen E.hb;omega
  have hnl:=pY _ n hf l;rcases hrow.2 with⟨rfl,hx0⟩|⟨g,cap,cur,rfl,hbg,hg,hnc,hcm,hcs,htake⟩
  · have hr:=run_append_nil (P:=P) w t t e i z E.ht hi hiz a l.length sc (flat f l) (by rw[hsz];exact hnl) hnews h0 (by omega) (by rw[hx0,Nat.zero_add]at FQ;rw[hby];omega);obtain⟨-,hv,hw⟩:=vQ hr;rw[hv,hw];intro g cur t' z' hg qK u hu;simp only[Value.ownBlock,Option.some.injEq]at hg;subst hg;have qK:=(heap_alloc_new w.drew _).symm.trans qK;simp only[Option.some.injEq,Obj.cells.injEq]at qK;obtain⟨rfl,-⟩:=qK;rw[Array.toList_append,List.mem_append]at hu;rcases hu with hu|hu
    · exact(hnq u hu).2
    · exact Ut u (NA _ _ _ hu)
  · have hxq:∀ u∈flat f xs,q u:=λu hu=>by
     rw[← htake]at hu;exact hq g cur e (0,0) rfl hg u (List.mem_of_mem_take hu)
    by_cases hroom:xs.length+l.length<=cap
    · have hfit:xs.length * i.size+(flat f l).length<=cur.size:=by rw[hnl,hcs,hsz,← Nat.add_mul];exact Nat.mul_le_mul_right _ hroom
      have hr:=run_append_room (P:=P) w t t e i E.ht hi g xs.length cap cur hg a l.length sc (flat f l) (by rw[hsz];exact hnl) hnews (λu hu=>(hnq u hu).1) hroom hfit;obtain⟨-,hv,hw⟩:=vQ hr;rw[hv,hw];intro g' cur' t' z' hg' qK u hu;simp only[Value.ownBlock,Option.some.injEq]at hg';subst hg';rw[setRow_heap w g cur _ e _ hg]at qK;simp only[Option.some.injEq,Obj.cells.injEq]at qK;obtain⟨rfl,-⟩:=qK;simp only[List.mem_append]at hu;rcases hu with(hu|hu)|hu
      · exact hq g cur e (0,0) rfl hg u (List.mem_of_mem_take hu)
      · exact(hnq u hu).2
      · exact hq g cur e (0,0) rfl hg u (List.mem_of_mem_drop hu)
    · have holds:∀ j u,(flat f xs)[j]? = some u->w.cell? ((⟨g,0,none⟩:Addr).add j)=some u:=hrow.cells (g:=g) rfl;have hr:=run_append_grow (P:=P) w t t e i z E.ht hi hiz ⟨g,0,none⟩ xs.length cap (flat f xs) (by rw[hsz];exact hrow.1) holds a l.length sc (flat f l) (by rw[hsz];exact hnl) hnews (by omega) (by omega) (growslice_fits (by omega) (by rw[hby];exact FQ));obtain⟨-,hv,hw⟩:=vQ hr;rw[hv,hw];intro g' cur' t' z' hg' qK u hu;simp only[Value.ownBlock,Option.some.injEq]at hg';subst hg';have qK:=(heap_alloc_new w.drew _).symm.trans qK;simp only[Option.some.injEq,Obj.cells.injEq]at qK;obtain⟨rfl,-⟩:=qK;simp only[Array.toList_append,List.mem_append]at hu;rcases hu with(hu|hu)|hu
      · exact hxq u hu
      · exact(hnq u hu).2
      · exact Ut u (NA _ _ _ hu)
end
def wM (v:Value):Prop:=∃ a n c,v = .slice a n c
theorem Tryz.OX:(Tryz.prog.info? 45).map (λi=>(i.zero,i.size,i.bytes))=some (some (.agg #[.slice none 0 0,.slice none 0 0]),2,48):=by kernel_rfl
theorem Tryz.OY:Elem Tryz.prog 119 45 2 48:=Elem.of Tryz.underlying119 Tryz.OX rfl (by decide) (by decide)
theorem Tryz.Yd:∀ i z,Tryz.prog.info? 45=some i->i.zero=some z->∀ u∈z.cells.toList,wM u:=by
 intro i z hi hz u hu;have h:=Tryz.OX;rw[hi]at h;simp only[Option.map_some,Option.some.injEq,Prod.mk.injEq]at h;rw[h.1]at hz;simp only[Option.some.injEq]at hz;subst hz;simp[Value.cells]at hu;exact⟨_,_,_,hu⟩
theorem QL {β:Type} {n:Nat} {f:β->List Value} {x y:World} {v:Value} {l:List β} {O:Nat->Prop} (h:ax n f x v l) (hf:∀ u,∃ c,(f u)[0]? = some c/\∀ a m k,c ≠ .slice a m k)
 (hO:∀ g,O g->∃ cur t z,x.heap[g]? = some (.cells cur t z)/\∀ u∈cur.toList,wM u) (hm:Mv O x y):ax n f y v l:=by
 cases l with
 |nil =>
  obtain⟨a,cap,e,h1,h2,_⟩:=h;exact⟨a,cap,e,h1,h2,λi x hx=>by simp at hx⟩
 |cons u l =>
  refine h.stay hm (λq hq e => ?_);obtain⟨b',off,cap,e2,_,hc⟩:=h.at (i:=0) (by simp);rw[e2]at hq;simp only[Value.ownBlock,Option.some.injEq]at hq;subst hq;obtain⟨c,hc0,hns⟩:=hf u;have h0:=hc 0 c (by simpa using hc0);obtain⟨cur,t,z,hb,hs⟩:=hO _ e;simp only[World.cell?,hb]at h0;obtain⟨a,m,k,hk⟩:=hs c (by
   have:=Array.mem_of_getElem? (by simpa using h0)
   simpa using this)
  exact hns _ _ _ hk
theorem ay.sl {x y:World} {v:Value} {p:aI} {O:Nat->Prop} (h:ay x v p) (hO:∀ g,O g->∃ cur t z,x.heap[g]? = some (.cells cur t z)/\∀ u∈cur.toList,wM u) (hm:Mv O x y):ay y v p:=by
 obtain⟨ca,cc,ra,rc,hv,h1,h2⟩:=h;exact⟨ca,cc,ra,rc,hv,QL h1 (λu=>⟨_,rfl,by simp⟩) hO hm,QL h2 (λu=>⟨_,rfl,by simp⟩) hO hm⟩
def fG (base:Nat) (w:World) (v:Value) (l:List aI):Prop:=∃ vs:List (Value × Value),vs.length=l.length/\w.ownsRow base 45 2 v vs.length (flat rD vs)/\Ll wM w v/\∀ i (h:i<vs.length) (h':i<l.length),ay w (.agg #[vs[i].1,vs[i].2]) l[i]
theorem fG.at {base:Nat} {w:World} {v:Value} {l:List aI} (h:fG base w v l):iw w v l:=by
 obtain⟨vs,h1,h2,_,h3⟩:=h;exact⟨vs,h1,iF (λ_=>rfl) h2,h3⟩
theorem fG.nil (base:Nat) (w:World):fG base w (.slice none 0 0) []:=⟨[],rfl,World.ownsRow_nil _ _ _ _,λg _ _ _ h=>by simp[Value.ownBlock]at h,λi h=>by simp at h⟩
theorem fG.form {base:Nat} {w:World} {v:Value} {l:List aI} (h:fG base w v l):∃ a c,v = .slice a l.length c:=by
 obtain⟨a,c,e,_⟩:=h.at.form;exact⟨a,c,e⟩
theorem fG.lt {base:Nat} {w:World} {v:Value} {l:List aI} (h:fG base w v l):∀ k,v.ownBlock=some k->base<=k/\k<w.heap.size:=by
 obtain⟨vs,h1,h2,_⟩:=h;exact h2.lt
theorem fG.later {base:Nat} {w w':World} {v:Value} {l:List aI} (h:fG base w v l) (hm:Grow w w'):fG base w' v l:=by
 obtain⟨vs,h1,h2,h4,h3⟩:=h;refine⟨vs,h1,bM h2 hm (λ_ _ e=>e),λg cur t z hg hc => ?_,λi hi hi'=>(h3 i hi hi').later hm⟩;exact h4 g cur t z hg (by rw[← hm.block g (h2.lt g hg).2 (λe=>e)];exact hc)
theorem Xi {w:World} {v:Value × Value} {p:aI} (h:ay w (.agg #[v.1,v.2]) p):wM v.1/\wM v.2:=by
 obtain⟨ca,cc,ra,rc,hv,_,_⟩:=h;simp only[Value.agg.injEq,Array.mk.injEq,List.cons.injEq,and_true]at hv;exact⟨⟨_,_,_,hv.1⟩,⟨_,_,_,hv.2⟩⟩
theorem Fy (base:Nat) (v s:Value) (l:List aI) (p:aI) (w:World) (h:fG base w v l) (hs:iw w s [p]) (hb:base<=w.heap.size) (hlen:l.length+1<=1000000) :
 ∃ a' c' w2,(rG Tryz.prog 119 119 v s w/\nV Tryz.prog 119 119 v s w = .slice a' (l.length+1) c'/\appW Tryz.prog 119 119 v s w=w2)/\fG base w2 (.slice a' (l.length+1) c') (l ++ [p])/\Mv (λb=>v.ownBlock=some b) w w2:=by
 obtain⟨vs,h1,h2,hq,h3⟩:=h;obtain⟨us,hu1,hu2,hu3⟩:=hs;have hu0:us.length=1:=by simpa using hu1
 have hp0:=hu3 0 (by omega) (by simp);have hone:∀ x∈us,∀ u∈rD x,u.oneCell'=true/\wM u:=λx hx u hu=>by
  obtain⟨i,hi,rfl⟩:=List.mem_iff_getElem.1 hx;obtain rfl:i=0:=by omega
  obtain⟨⟨a1,n1,c1,e1⟩,⟨a2,n2,c2,e2⟩⟩:=Xi hp0;simp only[rD,List.mem_cons,List.not_mem_nil,or_false]at hu;rcases hu with rfl|rfl
  · rw[e1];exact⟨rfl,_,_,_,rfl⟩
  · rw[e2];exact⟨rfl,_,_,_,rfl⟩
 obtain⟨a',c',w2,⟨hok,hv,hw⟩,hrow2,hmv,hown⟩:=oZ Tryz.OY (f:=rD) (λ_=>rfl) v s vs us base w h2 hu2 (λx hx u hu=>(hone x hx u hu).1) hb (by omega);have hall:=YU wM Tryz.OY (f:=rD) (λ_=>rfl) Tryz.Yd v s vs us base w h2 hq hu2 hone (by omega) (by omega);rw[hv,hw,h1,hu0]at hall;rw[h1,hu0]at hv hrow2;have hO:∀ g,v.ownBlock=some g->∃ cur t z,w.heap[g]? = some (.cells cur t z)/\∀ u∈cur.toList,wM u:=λg hg=>by
  rcases h2.2 with⟨rfl,_⟩|⟨g',cap,cur,rfl,_,hgg,_⟩
  · simp[Value.ownBlock]at hg
  · simp only[Value.ownBlock,Option.some.injEq]at hg;subst hg;exact⟨cur,_,_,hgg,hq g' cur _ _ rfl hgg⟩
 refine⟨a',c',w2,⟨hok,hv,hw⟩,⟨vs ++ us,by simp[h1,hu0],hrow2,hall,λi hi hi' => ?_⟩,hmv⟩;by_cases hil:i<vs.length
 · rw[List.getElem_append_left hil,List.getElem_append_left (by omega)];exact(h3 i hil (by omega)).sl hO hmv
 · have hi2:i=vs.length:=by simp at hi;omega
   subst hi2;rw[List.getElem_append_right (Nat.le_refl _),List.getElem_append_right (by omega)];simp only[Nat.sub_self,List.getElem_singleton];exact hp0.sl hO hmv
end Go.Proofs.YtnobahchcongnaaGreat
