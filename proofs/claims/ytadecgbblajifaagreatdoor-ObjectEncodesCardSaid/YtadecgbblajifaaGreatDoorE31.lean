import Derived.Test.YtadecgbblajifaaGreatDoorE30
set_option linter.unusedSimpArgs false
set_option linter.unusedVariables false
set_option maxRecDepth 100000
set_option maxHeartbeats 25600000
namespace Go.Proofs.YtadecgbblajifaaGreatDoor
open Go.RowKit
section
variable {P:Program} {ops:Array Oper} {Q:Exit->Act->World->Prop}
theorem Xe {id:Nat} {a:Act} {w:World} (hm:P.follows .mixedOrders=true) (N:Nat) (ds:List (Option Tmp)) (ws ns us ks:List (List Nat)) (hN:a.tmps.size=N) (hok:iR N ops ds ws ns us=true)
 (T:World->World->Prop) (hT0:∀ w,T w w) (oK:∀ x y z,T x y->T y z->T x z)
 (Y:Nat->List Value->World->Prop) (Z:Nat->World->Prop) (kz:List (List Nat)) (Mq:∀ z,z<kz.length->Z z w.drew)
 (hstep:∀ i o,ops[i]? = some o->∀ (vs:Nat->Value) (x:World),T w.drew x->(∀ j∈ws.getD i [],(∀ k∈ks.getD j [],k=i\/i∈ws.getD k [])->Y j ((us.getD j []).map vs) x)->(∀ z,z<kz.length->(∀ k∈kz.getD z [],k=i\/i∈ws.getD k [])->Z z x)->Gives P o (ai ds vs (ns.getD i []) a) x (λv y=>T x y/\(∀ z,z<kz.length->i ∉ kz.getD z []->(∀ k∈kz.getD z [],k ∉ ws.getD i [])->Z z x->Z z y)/\Y i ((us.getD i []).map (upd vs i v)) y/\∀ j l,j≠i->i ∉ ks.getD j []->i ∉ ws.getD j []->(∀ k∈ks.getD j [],k ∉ ws.getD i [])->Y j l x->Y j l y))
 (hend:∀ (vs:Nat->Value) (x:World),T w.drew x->(∀ j,j<ops.size->ks.getD j []=[]->Y j ((us.getD j []).map vs) x)->(∀ z,z<kz.length->kz.getD z []=[]->Z z x)->Q .normal (ai ds vs (List.range ops.size) a) x):(Code.region id ops true).wp P Q a w:=by
 simp only[iR,Bool.and_eq_true]at hok
 obtain⟨⟨hds,hws⟩,hall⟩:=hok
 have hds:=eq_of_beq hds
 have hws:=eq_of_beq hws
 have hdst:∀ i o,ops[i]? = some o->ds.getD i none=o.dst:=by
  intro i o ho
  rw[← hds]
  simp[dstsOf,ho]
 have sW:∀ i o,ops[i]? = some o->∀ j,j∈ws.getD i []↔∃ e∈o.after,Region.binds .any e=true/\e.on=j:=by
  intro i o ho j
  rw[← hws]
  simp[eZ,ho,and_assoc]
 have hop:∀ i o,ops[i]? = some o->((o.guard=none/\(∀ cs b,o.op ≠ .select cs b))/\(∀ j∈ws.getD i [],j<i))/\(∀ t∈tmpsOf o,∀ j,j<ops.size->ds.getD j none=some t->j∈ws.getD i []\/i∈ws.getD j []\/i=j)/\(∀ k∈us.getD i [],k=i\/k∈ws.getD i [])/\(∀ j,j<ops.size->j≠i->∀ t,ds.getD i none=some t->ds.getD j none≠some t)/\(∀ d,ds.getD i none=some d->d<N)/\(∀ j∈ns.getD i [],j∈ws.getD i [])/\(∀ t∈tmpsOf o,∀ j∈ws.getD i [],ds.getD j none=some t->j∈ns.getD i []):=by
  intro i o ho
  have hi:i<ops.size:=(Array.getElem?_eq_some_iff.1 ho).1
  have h:=List.all_eq_true.1 hall i (List.mem_range.2 hi)
  rw[ho]at h
  simp only[Bool.and_eq_true]at h
  obtain⟨⟨⟨⟨⟨⟨⟨⟨h1,h2⟩,h3⟩,h4⟩,h5⟩,h6⟩,h7⟩,h8⟩,h9⟩:=h
  refine⟨⟨⟨by simpa using h1,λcs b e=>by simp[EK,e]at h2⟩,λj hj=>by simpa using List.all_eq_true.1 h3 j hj⟩,λt ht j hj hd => ?_,λk hk => ?_,λj hj hne t hdi hdj => ?_,λd hd => ?_,λj hj=>by simpa using List.all_eq_true.1 h8 j hj,λt ht j hj hd => ?_⟩
  · have:=List.all_eq_true.1 (List.all_eq_true.1 h4 t ht) j (List.mem_range.2 hj)
    rw[hd]at this
    simp at this
    rcases this with(h|h)|h
    · exact .inl (by simpa using h)
    · exact .inr (.inl (by simpa using h))
    · exact .inr (.inr h)
  · have:=List.all_eq_true.1 h5 k hk
    simp at this
    rcases this with h|h
    · exact .inl h
    · exact .inr (by simpa using h)
  · have:=List.all_eq_true.1 h6 j (List.mem_range.2 hj)
    rw[hdi,hdj]at this
    simp at this
    exact hne this
  · rw[hd]at h7;simpa using h7
  · have:=List.all_eq_true.1 (List.all_eq_true.1 h9 t ht) j hj
    rw[hd]at this
    simpa using this
 clear hall
 have main:∀ (fuel:Nat) (L:Array Bool) (vs:Nat->Value) (x:World),L.size=ops.size->(∀ j o,ops[j]? = some o->L.getD j false=true->∀ k∈ws.getD j [],L.getD k false=true)->ops.size<=fuel+(aY ops.size L).length->T w.drew x->(∀ j,L.getD j false=true->(∀ k∈ks.getD j [],L.getD k false=false)->Y j ((us.getD j []).map vs) x)->(∀ z,z<kz.length->(∀ k∈kz.getD z [],L.getD k false=false)->Z z x)->wpAny P .any ops Q fuel L (ai ds vs (aY ops.size L) a) x:=by
  have hdone:∀ (L:Array Bool) (vs:Nat->Value) (x:World),L.size=ops.size->(∀ j o,ops[j]? = some o->L.getD j false=true->∀ k∈ws.getD j [],L.getD k false=true)->T w.drew x->(∀ j,L.getD j false=true->(∀ k∈ks.getD j [],L.getD k false=false)->Y j ((us.getD j []).map vs) x)->(∀ z,z<kz.length->(∀ k∈kz.getD z [],L.getD k false=false)->Z z x)->Region.ready .any ops L=[]->Q .normal (ai ds vs (aY ops.size L) a) x:=by
   intro L vs x hsz hcl hTx hY hZ hr
   have sZ:∀ (n:Nat),n<=ops.size->∀ j,j<n->L.getD j false=true:=by
    intro n
    induction n with
    |zero=>intro _ j hj;omega
    |succ n ih =>
     intro hn j hj
     rcases Nat.lt_or_ge j n with h|h
     · exact ih (by omega) j h
     · obtain rfl:j=n:=by omega
       have hjs:j<ops.size:=by omega
       cases hlj:L.getD j false with
       |true=>rfl
       |false =>
        exfalso
        have:j∈Region.ready .any ops L:=by
         refine mem_ready.2 ⟨?_,ops[j],Array.getElem?_eq_getElem hjs,λe he hb => ?_⟩
         · have:j<L.size:=by omega
           simp[this]at hlj ⊢;exact hlj
         · have hw:=(sW j _ (Array.getElem?_eq_getElem hjs) e.on).2 ⟨e,he,hb,rfl⟩
           exact ih (by omega) e.on ((hop j _ (Array.getElem?_eq_getElem hjs)).1.2 _ hw)
        rw[hr]at this;cases this
   have hup:aY ops.size L=List.range ops.size:=by
    unfold aY
    exact List.filter_eq_self.2 (λj hj=>sZ ops.size (Nat.le_refl _) j (List.mem_range.1 hj))
   rw[hup]
   exact hend vs x hTx (λj hj hk=>hY j (sZ ops.size (Nat.le_refl _) j hj) (λk hk'=>by rw[hk]at hk';cases hk')) (λz hz hk=>hZ z hz (λk hk'=>by rw[hk]at hk';cases hk'))
  intro fuel
  induction fuel with
  |zero =>
   intro L vs x hsz hcl hf hTx hY hZ
   have hlen:(aY ops.size L).length=ops.size:=by
    have h1:(aY ops.size L).length<=(List.range ops.size).length:=List.length_filter_le _ _
    simp at h1;omega
   have hr:Region.ready .any ops L=[]:=by
    refine List.eq_nil_iff_forall_not_mem.2 λj hj => ?_
    obtain⟨h1,o,ho,_⟩:=mem_ready.1 hj
    have hjs:j<ops.size:=(Array.getElem?_eq_some_iff.1 ho).1
    have Bl:aY ops.size L=List.range ops.size:=by
     unfold aY
     refine List.filter_eq_self.2 ?_
     have:(List.filter (λj=>L.getD j false) (List.range ops.size)).length=(List.range ops.size).length:=by
      have:=hlen;unfold aY at this;rw[this];simp
     exact List.length_filter_eq_length_iff.1 this
    have:=(mG (L:=L) (n:=ops.size) (j:=j)).1 (by rw[Bl];exact List.mem_range.2 hjs)
    have hjl:j<L.size:=by omega
    simp[hjl]at h1 this
    rw[h1]at this;cases this.2
   exact⟨hr,hdone L vs x hsz hcl hTx hY hZ hr⟩
  |succ fuel ih =>
   intro L vs x hsz hcl hf hTx hY hZ
   refine⟨hdone L vs x hsz hcl hTx hY hZ,λi hi => ?_⟩
   obtain⟨h1,o,ho,bf⟩:=mem_ready.1 hi
   have his:i<ops.size:=(Array.getElem?_eq_some_iff.1 ho).1
   have hil:i<L.size:=by omega
   have hlf:L.getD i false=false:=by simp[hil]at h1 ⊢;exact h1
   obtain⟨⟨⟨hgd,hsel⟩,hlt⟩,jy,LH,hdd,hdN,tq,Bn⟩:=hop i o ho
   have kR:∀ j∈ws.getD i [],L.getD j false=true:=by
    intro j hj
    obtain⟨e,he,hb,rfl⟩:=(sW i o ho j).1 hj
    exact bf e he hb
   have hg:=hstep i o ho vs x hTx (λj hj hk=>hY j (kR j hj) (λk hk'=>by
    rcases hk k hk' with e|e
    · rw[e];exact hlf
    · cases hlk:L.getD k false with
      |false=>rfl
      |true =>
       have hks:k<ops.size:=by
        rcases Nat.lt_or_ge k L.size with h|h
        · omega
        · simp[Array.getElem?_eq_none h]at hlk
       have:=hcl k _ (Array.getElem?_eq_getElem hks) hlk i e
       rw[hlf]at this;cases this)) (λz hz hk=>hZ z hz (λk hk'=>by
    rcases hk k hk' with e|e
    · rw[e];exact hlf
    · cases hlk:L.getD k false with
      |false=>rfl
      |true =>
       have hks:k<ops.size:=by
        rcases Nat.lt_or_ge k L.size with h|h
        · omega
        · simp[Array.getElem?_eq_none h]at hlk
       have:=hcl k _ (Array.getElem?_eq_getElem hks) hlk i e
       rw[hlf]at this;cases this))
   have Bo:execOp (ai ds vs (aY ops.size L) a).eval o=execOp (ai ds vs (ns.getD i []) a).eval o:=by
    refine execOp_congr o hsel λy hy => ?_
    cases y with
    |tmp t =>
     have ht:t∈tmpsOf o:=List.mem_filterMap.2 ⟨.tmp t,by simpa using hy,rfl⟩
     by_cases hex:∃ j∈ws.getD i [],ds.getD j none=some t
     · obtain⟨j,hj,hd⟩:=hex
       have hjs:j<ops.size:=by have:=hlt j hj;omega
       have tC:∀ k,k<ops.size->ds.getD k none=some t->k=j:=λk hk hkd=>by
        apply Classical.byContradiction
        intro hne
        exact(hop j _ (Array.getElem?_eq_getElem hjs)).2.2.2.1 k hk hne t hd hkd
       have uO:t<a.tmps.size:=by rw[hN];exact(hop j _ (Array.getElem?_eq_getElem hjs)).2.2.2.2.1 t hd
       rw[eval_at _ a (mG.2 ⟨hjs,kR j hj⟩) hd uO (λk hk hkd=>tC k (mG.1 hk).1 hkd),eval_at _ a (Bn t ht j hj hd) hd uO (λk hk hkd=>tC k (by have:=hlt k (tq k hk);omega) hkd)]
     · rw[kM _ a (λk hk t' ht' e => ?_),kM _ a (λk hk t' ht' e => ?_)]
       · simp only[Operand.tmp.injEq]at e
         subst e
         exact hex ⟨k,tq k hk,ht'⟩
       · simp only[Operand.tmp.injEq]at e
         subst e
         obtain⟨hks,oN⟩:=mG.1 hk
         rcases jy t ht k hks ht' with h|h|h
         · exact hex ⟨k,h,ht'⟩
         · have:=hcl k _ (Array.getElem?_eq_getElem hks) oN i h
           rw[hlf]at this;cases this
         · subst h
           rw[hlf]at oN;cases oN
    |_ =>
     rw[kM _ a (λk hk t' ht' e=>by cases e),kM _ a (λk hk t' ht' e=>by cases e)]
   unfold wpOp
   rw[ho]
   have hw:Region.wanted o (yielded ops (ai ds vs (aY ops.size L) a).tmps)=true:=by simp[Region.wanted,hgd]
   simp only[hw,if_true]
   refine .inl (Gives.wp (R:=λv y=>T x y/\(∀ z,z<kz.length->i ∉ kz.getD z []->(∀ k∈kz.getD z [],k ∉ ws.getD i [])->Z z x->Z z y)/\Y i ((us.getD i []).map (upd vs i v)) y/\∀ j l,j≠i->i ∉ ks.getD j []->i ∉ ws.getD j []->(∀ k∈ks.getD j [],k ∉ ws.getD i [])->Y j l x->Y j l y) (by unfold Gives at hg ⊢;rw[Bo];exact hg) ?_)
   rintro v y ⟨hTy,hZy,Mm,Mo⟩
   rw[← hdst i o ho,← IZ his hlf hil hdd]
   refine ih (L.setIfInBounds i true) (upd vs i v) y (by simpa using hsz) ?_ ?_ (oK _ _ _ hTx hTy) ?_ ?_
   · intro j oj hj hlj k hk
     by_cases hij:i=j
     · subst hij;exact getD_set_true (kR k hk)
     · rw[getD_set_ne false hij]at hlj
       exact getD_set_true (hcl j oj hj hlj k hk)
   · have hlen:(aY ops.size (L.setIfInBounds i true)).length=(aY ops.size L).length+1:=by
      have key:∀ js:List Nat,js.Nodup->i∈js->(js.filter λj=>(L.setIfInBounds i true).getD j false).length=(js.filter λj=>L.getD j false).length+1:=by
       intro js
       induction js with
       |nil=>intro _ h;cases h
       |cons j r ih2 =>
        intro hnd hmem
        simp only[List.nodup_cons]at hnd
        by_cases hji:j=i
        · subst hji
          have hset:(L.setIfInBounds j true).getD j false=true:=by simp[hil]
          rw[List.filter_cons,List.filter_cons,if_pos hset,if_neg (by simp[hlf])]
          have e1:(r.filter λk=>(L.setIfInBounds j true).getD k false)=r.filter λk=>L.getD k false:=by
           apply List.filter_congr
           intro k hk
           exact getD_set_ne false (λe=>hnd.1 (e ▸ hk))
          rw[e1];simp
        · have hir:i∈r:=by
           rcases List.mem_cons.1 hmem with e|e
           · exact absurd e.symm hji
           · exact e
          have e2:(L.setIfInBounds i true).getD j false=L.getD j false:=getD_set_ne false (λe=>hji e.symm)
          by_cases hj:L.getD j false=true
          · rw[List.filter_cons,List.filter_cons,if_pos (by rw[e2];exact hj),if_pos hj]
            rw[List.length_cons,List.length_cons,ih2 hnd.2 hir]
          · rw[List.filter_cons,List.filter_cons,if_neg (by rw[e2];exact hj),if_neg hj]
            exact ih2 hnd.2 hir
      exact key _ List.nodup_range (List.mem_range.2 his)
     omega
   · intro j hlj hkl
     by_cases hij:i=j
     · subst hij;exact Mm
     · rw[getD_set_ne false hij]at hlj
       have hnk:i ∉ ks.getD j []:=λhk=>by
        have:=hkl i hk
        simp[hil]at this
       have uh:∀ k∈ks.getD j [],L.getD k false=false:=λk hk=>by
        have:=hkl k hk
        have hik:i≠k:=λe=>hnk (by rw[e];exact hk)
        rw[getD_set_ne false hik]at this
        exact this
       have hjl:j<ops.size:=by
        rcases Nat.lt_or_ge j L.size with h|h
        · omega
        · simp[Array.getElem?_eq_none h]at hlj
       have e:(us.getD j []).map (upd vs i v)=(us.getD j []).map vs:=by
        apply List.map_congr_left
        intro k hk
        have hki:k≠i:=by
         intro e
         subst e
         rcases(hop j _ (Array.getElem?_eq_getElem hjl)).2.2.1 k hk with h|h
         · exact hij h
         · have:=hcl j _ (Array.getElem?_eq_getElem hjl) hlj k h
           rw[hlf]at this;cases this
        simp[upd,hki]
       rw[e]
       exact Mo _ _ (λe=>hij e.symm) hnk (λhw=>by have:=hcl j _ (Array.getElem?_eq_getElem hjl) hlj i hw;rw[hlf]at this;cases this) (λk hk hw=>by have:=kR k hw;rw[uh k hk]at this;cases this) (hY j hlj uh)
   · intro z hz hkl
     have hnk:i ∉ kz.getD z []:=λhk=>by
      have:=hkl i hk
      simp[hil]at this
     have uh:∀ k∈kz.getD z [],L.getD k false=false:=λk hk=>by
      have:=hkl k hk
      have hik:i≠k:=λe=>hnk (by rw[e];exact hk)
      rw[getD_set_ne false hik]at this
      exact this
     exact hZy z hz hnk (λk hk hw=>by have:=kR k hw;rw[uh k hk]at this;cases this) (hZ z hz uh)
 have h0:aY ops.size (Array.replicate ops.size false)=[]:=by
  unfold aY
  rw[List.filter_eq_nil_iff]
  intro j hj
  have:=List.mem_range.1 hj
  simp[this]
 have hm0:=main ops.size (Array.replicate ops.size false) (λ_=>undef) w.drew (by simp) (λj o ho hl=>by
  exfalso
  by_cases hj:j<ops.size <;> simp[hj]at hl) (by omega) (hT0 _) (λj hl _=>by
  exfalso
  by_cases hj:j<ops.size <;> simp[hj]at hl) (λz hz _=>Mq z hz)
 rw[h0]at hm0
 exact wp_region_any hm hm0
theorem WY {id:Nat} {a:Act} {w:World} {l:List Oper} (hm:P.follows .mixedOrders=true) (N:Nat) (ds:List (Option Tmp)) (ws ns us ks:List (List Nat)) (hN:a.tmps.size=N) (hok:iR N l.toArray ds ws ns us=true)
 (T:World->World->Prop) (hT0:∀ w,T w w) (oK:∀ x y z,T x y->T y z->T x z)
 (Y:Nat->List Value->World->Prop) (Z:Nat->World->Prop) (kz:List (List Nat)) (Mq:∀ z,z<kz.length->Z z w.drew)
 (hstep:lJ (λi o=>∀ (vs:Nat->Value) (x:World),T w.drew x->(∀ j∈ws.getD i [],(∀ k∈ks.getD j [],k=i\/i∈ws.getD k [])->Y j ((us.getD j []).map vs) x)->(∀ z,z<kz.length->(∀ k∈kz.getD z [],k=i\/i∈ws.getD k [])->Z z x)->Gives P o (ai ds vs (ns.getD i []) a) x (λv y=>T x y/\(∀ z,z<kz.length->i ∉ kz.getD z []->(∀ k∈kz.getD z [],k ∉ ws.getD i [])->Z z x->Z z y)/\Y i ((us.getD i []).map (upd vs i v)) y/\∀ j l,j≠i->i ∉ ks.getD j []->i ∉ ws.getD j []->(∀ k∈ks.getD j [],k ∉ ws.getD i [])->Y j l x->Y j l y)) 0 l)
 (hend:∀ (vs:Nat->Value) (x:World),T w.drew x->(∀ j,j<l.length->ks.getD j []=[]->Y j ((us.getD j []).map vs) x)->(∀ z,z<kz.length->kz.getD z []=[]->Z z x)->Q .normal (ai ds vs (List.range l.length) a) x):(Code.region id l.toArray true).wp P Q a w :=
 Xe hm N ds ws ns us ks hN hok T hT0 oK Y Z kz Mq (λi o ho=>by have:=Ae l 0 hstep i o (by simpa using ho);simpa using this) (by simpa using hend)
end
section
variable {P:Program} {ops:Array Oper} {Q:Exit->Act->World->Prop}
def qO (ws:List (List Nat)) (L:Array Bool):Prop:=∀ j,L.getD j false=true->∀ k∈ws.getD j [],L.getD k false=true
theorem Qw {N:Nat} {ds:List (Option Tmp)} {ws ns us:List (List Nat)} (hok:iR N ops ds ws ns us=true) {i:Nat} {o:Oper} (ho:ops[i]? = some o):o.guard=none:=by
 simp only[iR,Bool.and_eq_true]at hok
 have h:=List.all_eq_true.1 hok.2 i (List.mem_range.2 (Array.getElem?_eq_some_iff.1 ho).1)
 rw[ho]at h
 simp only[Bool.and_eq_true]at h
 simpa using h.1.1.1.1.1.1.1.1
theorem Qx (A:Nat->Array Bool->Act->World->Prop) (Gv:Oper->Act->World->(Value->World->Prop)->Prop) (GG:∀ L a x,Region.ready .any ops L=[]->Q .normal a x->A 0 L a x)
 (hAs:∀ fuel L a x,(Region.ready .any ops L=[]->Q .normal a x)->(∀ i∈Region.ready .any ops L,∀ o,ops[i]? = some o->o.guard=none->∃ R,Gv o a x R/\∀ v y,R v y->A fuel (L.setIfInBounds i true) (a.put o.dst v) y)->A (fuel+1) L a x)
 (hcg:∀ o a a' x R,execOp a.eval o=execOp a'.eval o->Gv o a' x R->Gv o a x R) {a:Act} {w:World} (N:Nat) (ds:List (Option Tmp)) (ws ns us:List (List Nat)) (hN:a.tmps.size=N) (hok:iR N ops ds ws ns us=true)
 (I:Array Bool->(Nat->Value)->World->Prop) (hI0:I (Array.replicate ops.size false) (λ_=>undef) w)
 (hstep:∀ i o,ops[i]? = some o->∀ (L:Array Bool) (vs:Nat->Value) (x:World),L.size=ops.size->L.getD i false=false->(∀ j∈ws.getD i [],L.getD j false=true)->qO ws L->I L vs x->Gv o (ai ds vs (ns.getD i []) a) x (λv y=>I (L.setIfInBounds i true) (upd vs i v) y))
 (hend:∀ (L:Array Bool) (vs:Nat->Value) (x:World),(∀ j,j<ops.size->L.getD j false=true)->I L vs x->Q .normal (ai ds vs (List.range ops.size) a) x):A ops.size (Array.replicate ops.size false) a w:=by
 simp only[iR,Bool.and_eq_true]at hok
 obtain⟨⟨hds,hws⟩,hall⟩:=hok
 have hds:=eq_of_beq hds
 have hws:=eq_of_beq hws
 have hdst:∀ i o,ops[i]? = some o->ds.getD i none=o.dst:=by
  intro i o ho
  rw[← hds]
  simp[dstsOf,ho]
 have sW:∀ i o,ops[i]? = some o->∀ j,j∈ws.getD i []↔∃ e∈o.after,Region.binds .any e=true/\e.on=j:=by
  intro i o ho j
  rw[← hws]
  simp[eZ,ho,and_assoc]
 have hop:∀ i o,ops[i]? = some o->((o.guard=none/\(∀ cs b,o.op ≠ .select cs b))/\(∀ j∈ws.getD i [],j<i))/\(∀ t∈tmpsOf o,∀ j,j<ops.size->ds.getD j none=some t->j∈ws.getD i []\/i∈ws.getD j []\/i=j)/\(∀ k∈us.getD i [],k=i\/k∈ws.getD i [])/\(∀ j,j<ops.size->j≠i->∀ t,ds.getD i none=some t->ds.getD j none≠some t)/\(∀ d,ds.getD i none=some d->d<N)/\(∀ j∈ns.getD i [],j∈ws.getD i [])/\(∀ t∈tmpsOf o,∀ j∈ws.getD i [],ds.getD j none=some t->j∈ns.getD i []):=by
  intro i o ho
  have hi:i<ops.size:=(Array.getElem?_eq_some_iff.1 ho).1
  have h:=List.all_eq_true.1 hall i (List.mem_range.2 hi)
  rw[ho]at h
  simp only[Bool.and_eq_true]at h
  obtain⟨⟨⟨⟨⟨⟨⟨⟨h1,h2⟩,h3⟩,h4⟩,h5⟩,h6⟩,h7⟩,h8⟩,h9⟩:=h
  refine⟨⟨⟨by simpa using h1,λcs b e=>by simp[EK,e]at h2⟩,λj hj=>by simpa using List.all_eq_true.1 h3 j hj⟩,λt ht j hj hd => ?_,λk hk => ?_,λj hj hne t hdi hdj => ?_,λd hd => ?_,λj hj=>by simpa using List.all_eq_true.1 h8 j hj,λt ht j hj hd => ?_⟩
  · have:=List.all_eq_true.1 (List.all_eq_true.1 h4 t ht) j (List.mem_range.2 hj)
    rw[hd]at this
    simp at this
    rcases this with(h|h)|h
    · exact .inl (by simpa using h)
    · exact .inr (.inl (by simpa using h))
    · exact .inr (.inr h)
  · have:=List.all_eq_true.1 h5 k hk
    simp at this
    rcases this with h|h
    · exact .inl h
    · exact .inr (by simpa using h)
  · have:=List.all_eq_true.1 h6 j (List.mem_range.2 hj)
    rw[hdi,hdj]at this
    simp at this
    exact hne this
  · rw[hd]at h7;simpa using h7
  · have:=List.all_eq_true.1 (List.all_eq_true.1 h9 t ht) j hj
    rw[hd]at this
    simpa using this
 clear hall
 have main:∀ (fuel:Nat) (L:Array Bool) (vs:Nat->Value) (x:World),L.size=ops.size->(∀ j o,ops[j]? = some o->L.getD j false=true->∀ k∈ws.getD j [],L.getD k false=true)->ops.size<=fuel+(aY ops.size L).length->I L vs x->A fuel L (ai ds vs (aY ops.size L) a) x:=by
  have hdone:∀ (L:Array Bool) (vs:Nat->Value) (x:World),L.size=ops.size->(∀ j o,ops[j]? = some o->L.getD j false=true->∀ k∈ws.getD j [],L.getD k false=true)->I L vs x->Region.ready .any ops L=[]->Q .normal (ai ds vs (aY ops.size L) a) x:=by
   intro L vs x hsz hcl hTx hr
   have sZ:∀ (n:Nat),n<=ops.size->∀ j,j<n->L.getD j false=true:=by
    intro n
    induction n with
    |zero=>intro _ j hj;omega
    |succ n ih =>
     intro hn j hj
     rcases Nat.lt_or_ge j n with h|h
     · exact ih (by omega) j h
     · obtain rfl:j=n:=by omega
       have hjs:j<ops.size:=by omega
       cases hlj:L.getD j false with
       |true=>rfl
       |false =>
        exfalso
        have:j∈Region.ready .any ops L:=by
         refine mem_ready.2 ⟨?_,ops[j],Array.getElem?_eq_getElem hjs,λe he hb => ?_⟩
         · have:j<L.size:=by omega
           simp[this]at hlj ⊢;exact hlj
         · have hw:=(sW j _ (Array.getElem?_eq_getElem hjs) e.on).2 ⟨e,he,hb,rfl⟩
           exact ih (by omega) e.on ((hop j _ (Array.getElem?_eq_getElem hjs)).1.2 _ hw)
        rw[hr]at this;cases this
   have hup:aY ops.size L=List.range ops.size:=by
    unfold aY
    exact List.filter_eq_self.2 (λj hj=>sZ ops.size (Nat.le_refl _) j (List.mem_range.1 hj))
   rw[hup]
   exact hend L vs x (λj hj=>sZ ops.size (Nat.le_refl _) j hj) hTx
  intro fuel
  induction fuel with
  |zero =>
   intro L vs x hsz hcl hf hTx
   have hlen:(aY ops.size L).length=ops.size:=by
    have h1:(aY ops.size L).length<=(List.range ops.size).length:=List.length_filter_le _ _
    simp at h1;omega
   have hr:Region.ready .any ops L=[]:=by
    refine List.eq_nil_iff_forall_not_mem.2 λj hj => ?_
    obtain⟨h1,o,ho,_⟩:=mem_ready.1 hj
    have hjs:j<ops.size:=(Array.getElem?_eq_some_iff.1 ho).1
    have Bl:aY ops.size L=List.range ops.size:=by
     unfold aY
     refine List.filter_eq_self.2 ?_
     have:(List.filter (λj=>L.getD j false) (List.range ops.size)).length=(List.range ops.size).length:=by
      have:=hlen;unfold aY at this;rw[this];simp
     exact List.length_filter_eq_length_iff.1 this
    have:=(mG (L:=L) (n:=ops.size) (j:=j)).1 (by rw[Bl];exact List.mem_range.2 hjs)
    have hjl:j<L.size:=by omega
    simp[hjl]at h1 this
    rw[h1]at this;cases this.2
   exact GG _ _ _ hr (hdone L vs x hsz hcl hTx hr)
  |succ fuel ih =>
   intro L vs x hsz hcl hf hTx
   refine hAs _ _ _ _ (hdone L vs x hsz hcl hTx) (λi hi o ho _ => ?_)
   obtain⟨h1,o',ho',bf⟩:=mem_ready.1 hi
   rw[ho]at ho'
   obtain rfl:=Option.some.inj ho'
   have his:i<ops.size:=(Array.getElem?_eq_some_iff.1 ho).1
   have hil:i<L.size:=by omega
   have hlf:L.getD i false=false:=by simp[hil]at h1 ⊢;exact h1
   obtain⟨⟨⟨hgd,hsel⟩,hlt⟩,jy,LH,hdd,hdN,tq,Bn⟩:=hop i o ho
   have kR:∀ j∈ws.getD i [],L.getD j false=true:=by
    intro j hj
    obtain⟨e,he,hb,rfl⟩:=(sW i o ho j).1 hj
    exact bf e he hb
   have hcl':qO ws L:=by
    intro j hj k hk
    rcases Nat.lt_or_ge j L.size with h|h
    · exact hcl j _ (Array.getElem?_eq_getElem (by omega:j<ops.size)) hj k hk
    · simp[Array.getElem?_eq_none h]at hj
   have hg:=hstep i o ho L vs x hsz hlf kR hcl' hTx
   have Bo:execOp (ai ds vs (aY ops.size L) a).eval o=execOp (ai ds vs (ns.getD i []) a).eval o:=by
    refine execOp_congr o hsel λy hy => ?_
    cases y with
    |tmp t =>
     have ht:t∈tmpsOf o:=List.mem_filterMap.2 ⟨.tmp t,by simpa using hy,rfl⟩
     by_cases hex:∃ j∈ws.getD i [],ds.getD j none=some t
     · obtain⟨j,hj,hd⟩:=hex
       have hjs:j<ops.size:=by have:=hlt j hj;omega
       have tC:∀ k,k<ops.size->ds.getD k none=some t->k=j:=λk hk hkd=>by
        apply Classical.byContradiction
        intro hne
        exact(hop j _ (Array.getElem?_eq_getElem hjs)).2.2.2.1 k hk hne t hd hkd
       have uO:t<a.tmps.size:=by rw[hN];exact(hop j _ (Array.getElem?_eq_getElem hjs)).2.2.2.2.1 t hd
       rw[eval_at _ a (mG.2 ⟨hjs,kR j hj⟩) hd uO (λk hk hkd=>tC k (mG.1 hk).1 hkd),eval_at _ a (Bn t ht j hj hd) hd uO (λk hk hkd=>tC k (by have:=hlt k (tq k hk);omega) hkd)]
     · rw[kM _ a (λk hk t' ht' e => ?_),kM _ a (λk hk t' ht' e => ?_)]
       · simp only[Operand.tmp.injEq]at e
         subst e
         exact hex ⟨k,tq k hk,ht'⟩
       · simp only[Operand.tmp.injEq]at e
         subst e
         obtain⟨hks,oN⟩:=mG.1 hk
         rcases jy t ht k hks ht' with h|h|h
         · exact hex ⟨k,h,ht'⟩
         · have:=hcl k _ (Array.getElem?_eq_getElem hks) oN i h
           rw[hlf]at this;cases this
         · subst h
           rw[hlf]at oN;cases oN
    |_ =>
     rw[kM _ a (λk hk t' ht' e=>by cases e),kM _ a (λk hk t' ht' e=>by cases e)]
   refine⟨_,hcg _ _ _ _ _ Bo hg,?_⟩
   intro v y hIy
   rw[← hdst i o ho,← IZ his hlf hil hdd]
   refine ih (L.setIfInBounds i true) (upd vs i v) y (by simpa using hsz) ?_ ?_ hIy
   · intro j oj hj hlj k hk
     by_cases hij:i=j
     · subst hij;exact getD_set_true (kR k hk)
     · rw[getD_set_ne false hij]at hlj
       exact getD_set_true (hcl j oj hj hlj k hk)
   · have hlen:(aY ops.size (L.setIfInBounds i true)).length=(aY ops.size L).length+1:=by
      have key:∀ js:List Nat,js.Nodup->i∈js->(js.filter λj=>(L.setIfInBounds i true).getD j false).length=(js.filter λj=>L.getD j false).length+1:=by
       intro js
       induction js with
       |nil=>intro _ h;cases h
       |cons j r ih2 =>
        intro hnd hmem
        simp only[List.nodup_cons]at hnd
        by_cases hji:j=i
        · subst hji
          have hset:(L.setIfInBounds j true).getD j false=true:=by simp[hil]
          rw[List.filter_cons,List.filter_cons,if_pos hset,if_neg (by simp[hlf])]
          have e1:(r.filter λk=>(L.setIfInBounds j true).getD k false)=r.filter λk=>L.getD k false:=by
           apply List.filter_congr
           intro k hk
           exact getD_set_ne false (λe=>hnd.1 (e ▸ hk))
          rw[e1];simp
        · have hir:i∈r:=by
           rcases List.mem_cons.1 hmem with e|e
           · exact absurd e.symm hji
           · exact e
          have e2:(L.setIfInBounds i true).getD j false=L.getD j false:=getD_set_ne false (λe=>hji e.symm)
          by_cases hj:L.getD j false=true
          · rw[List.filter_cons,List.filter_cons,if_pos (by rw[e2];exact hj),if_pos hj]
            rw[List.length_cons,List.length_cons,ih2 hnd.2 hir]
          · rw[List.filter_cons,List.filter_cons,if_neg (by rw[e2];exact hj),if_neg hj]
            exact ih2 hnd.2 hir
      exact key _ List.nodup_range (List.mem_range.2 his)
     omega
 have h0:aY ops.size (Array.replicate ops.size false)=[]:=by
  unfold aY
  rw[List.filter_eq_nil_iff]
  intro j hj
  have:=List.mem_range.1 hj
  simp[this]
 have hm0:=main ops.size (Array.replicate ops.size false) (λ_=>undef) w (by simp) (λj o ho hl=>by
  exfalso
  by_cases hj:j<ops.size <;> simp[hj]at hl) (by omega) hI0
 rw[h0]at hm0
 exact hm0
theorem Y9 {a:Act} {w:World} (N:Nat) (ds:List (Option Tmp)) (ws ns us:List (List Nat)) (hN:a.tmps.size=N) (hok:iR N ops ds ws ns us=true)
 (I:Array Bool->(Nat->Value)->World->Prop) (hI0:I (Array.replicate ops.size false) (λ_=>undef) w)
 (hstep:∀ i o,ops[i]? = some o->∀ (L:Array Bool) (vs:Nat->Value) (x:World),L.size=ops.size->L.getD i false=false->(∀ j∈ws.getD i [],L.getD j false=true)->qO ws L->I L vs x->Gives P o (ai ds vs (ns.getD i []) a) x (λv y=>I (L.setIfInBounds i true) (upd vs i v) y))
 (hend:∀ (L:Array Bool) (vs:Nat->Value) (x:World),(∀ j,j<ops.size->L.getD j false=true)->I L vs x->Q .normal (ai ds vs (List.range ops.size) a) x):wpAny P .any ops Q ops.size (Array.replicate ops.size false) a w :=
 Qx (wpAny P .any ops Q) (Gives P) (λ_ _ _ h1 h2=>⟨h1,h2⟩) (λfuel L a x h1 h2=>⟨h1,λi hi=>by
  obtain⟨-,o,ho,-⟩:=mem_ready.1 hi
  unfold wpOp
  rw[ho]
  by_cases hgd:o.guard=none
  · have hw:Region.wanted o (yielded ops a.tmps)=true:=by simp[Region.wanted,hgd]
    simp only[hw,if_true]
    obtain⟨R,hg,hR⟩:=h2 i hi o ho hgd
    exact .inl (hg.wp hR)
  · exact(hgd (Qw hok ho)).elim⟩) (λo a a' x R e h=>by unfold Gives at h ⊢;rw[e];exact h) N ds ws ns us hN hok I hI0 hstep hend
end
end Go.Proofs.YtadecgbblajifaaGreatDoor
