import Derived.Test.YtbpodipdfohikaaGreatK13
set_option linter.unusedSimpArgs false
set_option linter.unusedVariables false
set_option maxRecDepth 100000
set_option maxHeartbeats 25600000
namespace Go.Proofs.YtbpodipdfohikaaGreat
open Go.RowKit Go.Instr
def strip (o:Oper):Oper := { o with guard:=none }
theorem Yb (o:Oper):(strip o).guard.isNone=true:=rfl
theorem U6 (o:Oper):tmpsOf (strip o)=tmpsOf o:=rfl
theorem Wd (o:Oper):BO (strip o)=BO o:=rfl
theorem U7 (ops:Array Oper):dstsOf (ops.map strip)=dstsOf ops:=by simp[dstsOf,strip]
theorem Um (ops:Array Oper):bK (ops.map strip)=bK ops:=by simp[bK,strip]
section
variable {P:Program} {ops:Array Oper} {Q:Exit->Act->World->Prop}
theorem Xu (A:Nat->Array Bool->Act->World->Prop) (Gv:Oper->Act->World->(Value->World->Prop)->Prop) (oC:∀ L a x,Region.ready .any ops L=[]->Q .normal a x->A 0 L a x)
 (hAs:∀ fuel L a x,(Region.ready .any ops L=[]->Q .normal a x)->(∀ i∈Region.ready .any ops L,∀ o,ops[i]? = some o->Region.wanted o (yielded ops a.tmps)=true/\∃ R,Gv o a x R/\∀ v y,R v y->A fuel (L.setIfInBounds i true) (a.put o.dst v) y)->A (fuel+1) L a x)
 (hcg:∀ o a a' x R,execOp a.eval o=execOp a'.eval o->Gv o a' x R->Gv o a x R) {a:Act} {w:World} (N:Nat) (ds:List (Option Tmp)) (ws ns us:List (List Nat)) (hN:a.tmps.size=N) (hok:fI N (ops.map strip) ds ws ns us=true) (hgu:∀ (i:Nat) (o:Oper) (j:Nat) (b:Bool),ops[i]? = some o->o.guard=some (j,b)->j∈ws.getD i []/\∃ t,ds.getD j none=some t)
 (I:Array Bool->(Nat->Value)->World->Prop) (hgv:∀ (i:Nat) (o:Oper) (j:Nat) (b:Bool),ops[i]? = some o->o.guard=some (j,b)->∀ L vs x,I L vs x->L.getD j false=true->vs j = .bool b) (hI0:I (Array.replicate ops.size false) (λ_=>undef) w)
 (hstep:∀ i o,ops[i]? = some o->∀ (L:Array Bool) (vs:Nat->Value) (x:World),L.size=ops.size->L.getD i false=false->(∀ j∈ws.getD i [],L.getD j false=true)->kT ws L->I L vs x->Gv o (aK ds vs (ns.getD i []) a) x (λv y=>I (L.setIfInBounds i true) (upd vs i v) y))
 (hend:∀ (L:Array Bool) (vs:Nat->Value) (x:World),(∀ j,j<ops.size->L.getD j false=true)->I L vs x->Q .normal (aK ds vs (List.range ops.size) a) x):A ops.size (Array.replicate ops.size false) a w:=by
 simp only[fI,Bool.and_eq_true]at hok
 obtain⟨⟨hds,hws⟩,hall⟩:=hok
 have hds:dstsOf ops=ds:=by have:=eq_of_beq hds;rwa[U7]at this
 have hws:bK ops=ws:=by have:=eq_of_beq hws;rwa[Um]at this
 rw[Array.size_map]at hall
 have hdst:∀ i o,ops[i]? = some o->ds.getD i none=o.dst:=by
  intro i o ho
  rw[← hds]
  simp[dstsOf,ho]
 have BP:∀ i o,ops[i]? = some o->∀ j,j∈ws.getD i []↔∃ e∈o.after,Region.binds .any e=true/\e.on=j:=by
  intro i o ho j
  rw[← hws]
  simp[bK,ho,and_assoc]
 have hop:∀ i o,ops[i]? = some o->((True/\(∀ cs b,o.op ≠ .select cs b))/\(∀ j∈ws.getD i [],j<i))/\(∀ t∈tmpsOf o,∀ j,j<ops.size->ds.getD j none=some t->j∈ws.getD i []\/i∈ws.getD j []\/i=j)/\(∀ k∈us.getD i [],k=i\/k∈ws.getD i [])/\(∀ j,j<ops.size->j≠i->∀ t,ds.getD i none=some t->ds.getD j none≠some t)/\(∀ d,ds.getD i none=some d->d<N)/\(∀ j∈ns.getD i [],j∈ws.getD i [])/\(∀ t∈tmpsOf o,∀ j∈ws.getD i [],ds.getD j none=some t->j∈ns.getD i []):=by
  intro i o ho
  have hi:i<ops.size:=(Array.getElem?_eq_some_iff.1 ho).1
  have h:=List.all_eq_true.1 hall i (List.mem_range.2 hi)
  rw[Array.getElem?_map,ho,Option.map_some]at h
  simp only[Bool.and_eq_true,U6,Wd,Yb]at h
  obtain⟨⟨⟨⟨⟨⟨⟨⟨h1,h2⟩,h3⟩,h4⟩,h5⟩,h6⟩,h7⟩,h8⟩,h9⟩:=h
  refine⟨⟨⟨trivial,λcs b e=>by simp[BO,e]at h2⟩,λj hj=>by simpa using List.all_eq_true.1 h3 j hj⟩,λt ht j hj hd => ?_,λk hk => ?_,λj hj hne t hdi hdj => ?_,λd hd => ?_,λj hj=>by simpa using List.all_eq_true.1 h8 j hj,λt ht j hj hd => ?_⟩
  · have:=List.all_eq_true.1 (List.all_eq_true.1 h4 t ht) j (List.mem_range.2 hj)
    rw[hd]at this
    simp at this
    rcases this with(h|h)|h
    · exact .inl (by simpa using h)
    · exact .inr (.inl (by simpa using h))
    · exact .inr (.inr h)
  · have:=List.all_eq_true.1 h5 k hk
    simp at this
    rcases this with h|h
    · exact .inl h
    · exact .inr (by simpa using h)
  · have:=List.all_eq_true.1 h6 j (List.mem_range.2 hj)
    rw[hdi,hdj]at this
    simp at this
    exact hne this
  · rw[hd]at h7;simpa using h7
  · have:=List.all_eq_true.1 (List.all_eq_true.1 h9 t ht) j hj
    rw[hd]at this
    simpa using this
 clear hall
 have main:∀ (fuel:Nat) (L:Array Bool) (vs:Nat->Value) (x:World),L.size=ops.size->(∀ j o,ops[j]? = some o->L.getD j false=true->∀ k∈ws.getD j [],L.getD k false=true)->ops.size<=fuel+(dI ops.size L).length->I L vs x->A fuel L (aK ds vs (dI ops.size L) a) x:=by
  have hdone:∀ (L:Array Bool) (vs:Nat->Value) (x:World),L.size=ops.size->(∀ j o,ops[j]? = some o->L.getD j false=true->∀ k∈ws.getD j [],L.getD k false=true)->I L vs x->Region.ready .any ops L=[]->Q .normal (aK ds vs (dI ops.size L) a) x:=by
   intro L vs x hsz hcl hTx hr
   have BQ:∀ (n:Nat),n<=ops.size->∀ j,j<n->L.getD j false=true:=by
    intro n
    induction n with
    |zero=>intro _ j hj;omega
    |succ n ih =>
     intro hn j hj
     rcases Nat.lt_or_ge j n with h|h
     · exact ih (by omega) j h
     · obtain rfl:j=n:=by omega
       have hjs:j<ops.size:=by omega
       cases hlj:L.getD j false with
       |true=>rfl
       |false =>
        exfalso
        have:j∈Region.ready .any ops L:=by
         refine mem_ready.2 ⟨?_,ops[j],Array.getElem?_eq_getElem hjs,λe he hb => ?_⟩
         · have:j<L.size:=by omega
           simp[this]at hlj ⊢;exact hlj
         · have hw:=(BP j _ (Array.getElem?_eq_getElem hjs) e.on).2 ⟨e,he,hb,rfl⟩
           exact ih (by omega) e.on ((hop j _ (Array.getElem?_eq_getElem hjs)).1.2 _ hw)
        rw[hr]at this;cases this
   have hup:dI ops.size L=List.range ops.size:=by
    unfold dI
    exact List.filter_eq_self.2 (λj hj=>BQ ops.size (Nat.le_refl _) j (List.mem_range.1 hj))
   rw[hup]
   exact hend L vs x (λj hj=>BQ ops.size (Nat.le_refl _) j hj) hTx
  intro fuel
  induction fuel with
  |zero =>
   intro L vs x hsz hcl hf hTx
   have hlen:(dI ops.size L).length=ops.size:=by
    have h1:(dI ops.size L).length<=(List.range ops.size).length:=List.length_filter_le _ _
    simp at h1;omega
   have hr:Region.ready .any ops L=[]:=by
    refine List.eq_nil_iff_forall_not_mem.2 λj hj => ?_
    obtain⟨h1,o,ho,_⟩:=mem_ready.1 hj
    have hjs:j<ops.size:=(Array.getElem?_eq_some_iff.1 ho).1
    have Ie:dI ops.size L=List.range ops.size:=by
     unfold dI
     refine List.filter_eq_self.2 ?_
     have:(List.filter (λj=>L.getD j false) (List.range ops.size)).length=(List.range ops.size).length:=by
      have:=hlen;unfold dI at this;rw[this];simp
     exact List.length_filter_eq_length_iff.1 this
    have:=(qN (L:=L) (n:=ops.size) (j:=j)).1 (by rw[Ie];exact List.mem_range.2 hjs)
    have hjl:j<L.size:=by omega
    simp[hjl]at h1 this
    rw[h1]at this;cases this.2
   exact oC _ _ _ hr (hdone L vs x hsz hcl hTx hr)
  |succ fuel ih =>
   intro L vs x hsz hcl hf hTx
   refine hAs _ _ _ _ (hdone L vs x hsz hcl hTx) (λi hi o ho => ?_)
   obtain⟨h1,o',ho',eF⟩:=mem_ready.1 hi
   rw[ho]at ho'
   obtain rfl:=Option.some.inj ho'
   have his:i<ops.size:=(Array.getElem?_eq_some_iff.1 ho).1
   have hil:i<L.size:=by omega
   have hlf:L.getD i false=false:=by simp[hil]at h1 ⊢;exact h1
   obtain⟨⟨⟨hgd,hsel⟩,hlt⟩,Ja,_y,hdd,hdN,BR,Ig⟩:=hop i o ho
   have sV:∀ j∈ws.getD i [],L.getD j false=true:=by
    intro j hj
    obtain⟨e,he,hb,rfl⟩:=(BP i o ho j).1 hj
    exact eF e he hb
   have hcl':kT ws L:=by
    intro j hj k hk
    rcases Nat.lt_or_ge j L.size with h|h
    · exact hcl j _ (Array.getElem?_eq_getElem (by omega:j<ops.size)) hj k hk
    · simp[Array.getElem?_eq_none h]at hj
   have hg:=hstep i o ho L vs x hsz hlf sV hcl' hTx
   have Ih:execOp (aK ds vs (dI ops.size L) a).eval o=execOp (aK ds vs (ns.getD i []) a).eval o:=by
    refine execOp_congr o hsel λy hy => ?_
    cases y with
    |tmp t =>
     have ht:t∈tmpsOf o:=List.mem_filterMap.2 ⟨.tmp t,by simpa using hy,rfl⟩
     by_cases hex:∃ j∈ws.getD i [],ds.getD j none=some t
     · obtain⟨j,hj,hd⟩:=hex
       have hjs:j<ops.size:=by have:=hlt j hj;omega
       have xh:∀ k,k<ops.size->ds.getD k none=some t->k=j:=λk hk hkd=>by
        apply Classical.byContradiction
        intro hne
        exact(hop j _ (Array.getElem?_eq_getElem hjs)).2.2.2.1 k hk hne t hd hkd
       have xW:t<a.tmps.size:=by rw[hN];exact(hop j _ (Array.getElem?_eq_getElem hjs)).2.2.2.2.1 t hd
       rw[eval_at _ a (qN.2 ⟨hjs,sV j hj⟩) hd xW (λk hk hkd=>xh k (qN.1 hk).1 hkd),eval_at _ a (Ig t ht j hj hd) hd xW (λk hk hkd=>xh k (by have:=hlt k (BR k hk);omega) hkd)]
     · rw[qB _ a (λk hk t' ht' e => ?_),qB _ a (λk hk t' ht' e => ?_)]
       · simp only[Operand.tmp.injEq]at e
         subst e
         exact hex ⟨k,BR k hk,ht'⟩
       · simp only[Operand.tmp.injEq]at e
         subst e
         obtain⟨hks,lh⟩:=qN.1 hk
         rcases Ja t ht k hks ht' with h|h|h
         · exact hex ⟨k,h,ht'⟩
         · have:=hcl k _ (Array.getElem?_eq_getElem hks) lh i h
           rw[hlf]at this;cases this
         · subst h
           rw[hlf]at lh;cases lh
    |_ =>
     rw[qB _ a (λk hk t' ht' e=>by cases e),qB _ a (λk hk t' ht' e=>by cases e)]
   have hwant:Region.wanted o (yielded ops (aK ds vs (dI ops.size L) a).tmps)=true:=by
    cases hgo:o.guard with
    |none=>simp[Region.wanted,hgo]
    |some g =>
     obtain⟨j,b⟩:=g
     obtain⟨hj,t,hd⟩:=hgu i o j b ho hgo
     have hjs:j<ops.size:=by have:=hlt j hj;omega
     have hv:=hgv i o j b ho hgo L vs x hTx (sV j hj)
     have xh:∀ k,k<ops.size->ds.getD k none=some t->k=j:=λk hk hkd=>by
      apply Classical.byContradiction
      intro hne
      exact(hop j _ (Array.getElem?_eq_getElem hjs)).2.2.2.1 k hk hne t hd hkd
     have xW:t<a.tmps.size:=by rw[hN];exact(hop j _ (Array.getElem?_eq_getElem hjs)).2.2.2.2.1 t hd
     have he:=eval_at (ds:=ds) (vs:=vs) _ a (qN.2 ⟨hjs,sV j hj⟩) hd xW (λk hk hkd=>xh k (qN.1 hk).1 hkd)
     rw[hv]at he
     have hy:yielded ops (aK ds vs (dI ops.size L) a).tmps j=some b:=by
      have hdj:=hdst j _ (Array.getElem?_eq_getElem hjs)
      rw[hd]at hdj
      have h2:(aK ds vs (dI ops.size L) a).tmps[t]? = some (.bool b):=by
       simp only[Act.eval,Array.getD]at he
       split at he
       · rename_i h;rw[Array.getElem?_eq_getElem h];rw[← he];rfl
       · cases he
      unfold yielded
      rw[Array.getElem?_eq_getElem hjs,Option.bind_some,← hdj,Option.bind_some,h2]
     simp[Region.wanted,hgo,hy]
   refine⟨hwant,_,hcg _ _ _ _ _ Ih hg,?_⟩
   intro v y Jb
   rw[← hdst i o ho,← Ml his hlf hil hdd]
   refine ih (L.setIfInBounds i true) (upd vs i v) y (by simpa using hsz) ?_ ?_ Jb
   · intro j oj hj hlj k hk
     by_cases hij:i=j
     · subst hij;exact getD_set_true (sV k hk)
     · rw[getD_set_ne false hij]at hlj
       exact getD_set_true (hcl j oj hj hlj k hk)
   · have hlen:(dI ops.size (L.setIfInBounds i true)).length=(dI ops.size L).length+1:=by
      have key:∀ js:List Nat,js.Nodup->i∈js->(js.filter λj=>(L.setIfInBounds i true).getD j false).length=(js.filter λj=>L.getD j false).length+1:=by
       intro js
       induction js with
       |nil=>intro _ h;cases h
       |cons j r ih2 =>
        intro hnd hmem
        simp only[List.nodup_cons]at hnd
        by_cases hji:j=i
        · subst hji
          have hset:(L.setIfInBounds j true).getD j false=true:=by simp[hil]
          rw[List.filter_cons,List.filter_cons,if_pos hset,if_neg (by simp[hlf])]
          have e1:(r.filter λk=>(L.setIfInBounds j true).getD k false)=r.filter λk=>L.getD k false:=by
           apply List.filter_congr
           intro k hk
           exact getD_set_ne false (λe=>hnd.1 (e ▸ hk))
          rw[e1];simp
        · have hir:i∈r:=by
           rcases List.mem_cons.1 hmem with e|e
           · exact absurd e.symm hji
           · exact e
          have e2:(L.setIfInBounds i true).getD j false=L.getD j false:=getD_set_ne false (λe=>hji e.symm)
          by_cases hj:L.getD j false=true
          · rw[List.filter_cons,List.filter_cons,if_pos (by rw[e2];exact hj),if_pos hj]
            rw[List.length_cons,List.length_cons,ih2 hnd.2 hir]
          · rw[List.filter_cons,List.filter_cons,if_neg (by rw[e2];exact hj),if_neg hj]
            exact ih2 hnd.2 hir
      exact key _ List.nodup_range (List.mem_range.2 his)
     omega
 have h0:dI ops.size (Array.replicate ops.size false)=[]:=by
  unfold dI
  rw[List.filter_eq_nil_iff]
  intro j hj
  have:=List.mem_range.1 hj
  simp[this]
 have hm0:=main ops.size (Array.replicate ops.size false) (λ_=>undef) w (by simp) (λj o ho hl=>by
  exfalso
  by_cases hj:j<ops.size <;> simp[hj]at hl) (by omega) hI0
 rw[h0]at hm0
 exact hm0
theorem U8 {a:Act} {w:World} (N:Nat) (ds:List (Option Tmp)) (ws ns us:List (List Nat)) (hN:a.tmps.size=N) (hok:fI N (ops.map strip) ds ws ns us=true) (hgu:∀ (i:Nat) (o:Oper) (j:Nat) (b:Bool),ops[i]? = some o->o.guard=some (j,b)->j∈ws.getD i []/\∃ t,ds.getD j none=some t)
 (I:Array Bool->(Nat->Value)->World->Prop) (hgv:∀ (i:Nat) (o:Oper) (j:Nat) (b:Bool),ops[i]? = some o->o.guard=some (j,b)->∀ L vs x,I L vs x->L.getD j false=true->vs j = .bool b) (hI0:I (Array.replicate ops.size false) (λ_=>undef) w)
 (hstep:∀ i o,ops[i]? = some o->∀ (L:Array Bool) (vs:Nat->Value) (x:World),L.size=ops.size->L.getD i false=false->(∀ j∈ws.getD i [],L.getD j false=true)->kT ws L->I L vs x->Gives P o (aK ds vs (ns.getD i []) a) x (λv y=>I (L.setIfInBounds i true) (upd vs i v) y))
 (hend:∀ (L:Array Bool) (vs:Nat->Value) (x:World),(∀ j,j<ops.size->L.getD j false=true)->I L vs x->Q .normal (aK ds vs (List.range ops.size) a) x):wpAny P .any ops Q ops.size (Array.replicate ops.size false) a w :=
 Xu (wpAny P .any ops Q) (Gives P) (λ_ _ _ h1 h2=>⟨h1,h2⟩) (λfuel L a x h1 h2=>⟨h1,λi hi=>by
  obtain⟨-,o,ho,-⟩:=mem_ready.1 hi
  unfold wpOp
  rw[ho]
  obtain⟨hw,R,hg,hR⟩:=h2 i hi o ho
  simp only[hw,if_true]
  exact .inl (hg.wp hR)⟩) (λo a a' x R e h=>by unfold Gives at h ⊢;rw[e];exact h) N ds ws ns us hN hok hgu I hgv hI0 hstep hend
end
section
variable {P:Program} {Q:Exit->Act->World->Prop}
theorem Un {a:Act} {w:World} {l:List Oper} (N:Nat) (ds:List (Option Tmp)) (ws ns:List (List Nat)) (kl:List Bool) (ks:List Kd) (Ps:List (Value->World->Prop)) (hN:a.tmps.size=N) (hok:fI N (l.toArray.map strip) ds ws ns []=true) (hgu:∀ (i:Nat) (o:Oper) (j:Nat) (b:Bool),l.toArray[i]? = some o->o.guard=some (j,b)->(j∈ws.getD i []/\∃ t,ds.getD j none=some t)/\kl.getD j false=false/\∀ v x,(Ps.getD j cz) v x->v = .bool b) (hkd:tH ws kl ks=true) (hlen:ks.length=l.length)
 (kY:KP ks Ps) (iJ:sI (ks.filterMap Kd.zero) kl Ps)
 (hR0:∀ i R iv z T,ks.getD i .op = .rs R iv z T->R<w.heap.size/\w.heap[R]? = some (.cells z T (0,0)))
 (hstep:iX (GStep P ds ws ns kl ks Ps w a) 0 l)
 (hend:∀ (vs:Nat->Value) (x:World),qY kl ks Ps w vs x->Q .normal (aK ds vs (List.range l.length) a) x):wpAny P .any l.toArray Q l.toArray.size (Array.replicate l.toArray.size false) a w:=by
 have hal:=λi hi=>kY.at i hi
 have hk:∀ i,i<ks.length->_:=λi hi=>List.all_eq_true.1 hkd i (List.mem_range.2 hi)
 have hzs:∀ i st iv z T,ks.getD i .op = .al st iv z T->(z,T)∈ks.filterMap Kd.zero:=by
  intro i st iv z T h
  have hi:=getD_lt (by rw[h];simp:ks.getD i .op ≠ .op)
  refine List.mem_filterMap.2 ⟨ks[i],List.getElem_mem hi,?_⟩
  have:ks[i]=ks.getD i .op:=by simp[List.getD,hi]
  rw[this,h];rfl
 have Jc:∀ i R iv z T,ks.getD i .op = .rs R iv z T->(z,T)∈ks.filterMap Kd.zero:=by
  intro i R iv z T h
  have hi:=getD_lt (by rw[h];simp:ks.getD i .op ≠ .op)
  refine List.mem_filterMap.2 ⟨ks[i],List.getElem_mem hi,?_⟩
  have:ks[i]=ks.getD i .op:=by simp[List.getD,hi]
  rw[this,h];rfl
 have hka:∀ i st iv z T,ks.getD i .op = .al st iv z T->ks.getD st .op = .st i/\i∈ws.getD st []/\iv∈ws.getD st []:=by
  intro i st iv z T h
  have h1:=hk i (getD_lt (by rw[h];simp))
  rw[h]at h1
  simp only[Bool.and_eq_true]at h1
  obtain⟨h1,h2,h3,_⟩:=h1
  refine⟨?_,by simpa using h2,by simpa using h3⟩
  split at h1
  · rename_i ia he;rw[he];congr 1;simpa using h1
  · cases h1
 have hkl:∀ i st iv z T,ks.getD i .op = .al st iv z T->kl.getD iv false=false:=by
  intro i st iv z T h
  have h1:=hk i (getD_lt (by rw[h];simp))
  rw[h]at h1
  simp only[Bool.and_eq_true]at h1
  simpa using h1.2.2.2
 have Ir:∀ i R iv z T,ks.getD i .op = .rs R iv z T->kl.getD iv false=false:=by
  intro i R iv z T h
  have h1:=hk i (getD_lt (by rw[h];simp))
  rw[h]at h1
  simp only[Bool.and_eq_true]at h1
  simpa using h1.1.2
 have hks:∀ i ia,ks.getD i .op = .st ia->∃ iv z T,ks.getD ia .op = .al i iv z T:=by
  intro i ia h
  have h1:=hk i (getD_lt (by rw[h];simp))
  rw[h]at h1
  simp only at h1
  split at h1
  · rename_i st iv z T he
    have:st=i:=by simpa using h1
    subst this
    exact⟨iv,z,T,he⟩
  · cases h1
 have hkr:∀ i R iv z T,ks.getD i .op = .rs R iv z T->iv∈ws.getD i []/\∀ j,j≠i->(ks.getD j .op).jL=false:=by
  intro i R iv z T h
  have h1:=hk i (getD_lt (by rw[h];simp))
  rw[h]at h1
  simp only[Bool.and_eq_true]at h1
  refine⟨by simpa using h1.1.1,λj hj => ?_⟩
  rcases Nat.lt_or_ge j ks.length with hjl|hjl
  · have:=List.all_eq_true.1 h1.2 j (List.mem_range.2 hjl)
    simp only[Bool.or_eq_true,Bool.not_eq_true',beq_iff_eq]at this
    rcases this with e|e
    · exact absurd e hj
    · exact e
  · simp[List.getD,List.getElem?_eq_none hjl,Kd.jL]
 refine U8 N ds ws ns [] hN hok (λi o j b h1 h2=>(hgu i o j b h1 h2).1) (GI kl ks Ps w) (λi o j b h1 h2 L vs x hI hL=>(hgu i o j b h1 h2).2.2 _ x (hI.val j hL (λh=>by rw[(hgu i o j b h1 h2).2.1]at h;cases h))) ?_ ?_ ?_
 · have hf:∀ j,(Array.replicate l.toArray.size false).getD j false=false:=by
    intro j
    by_cases hj:j<l.toArray.size
    · simp[Array.getD,hj]
    · simp[Array.getD,hj]
   refine⟨Mv.refl _ _,λj h _ => ?_,λi st iv z T _ h => ?_,λi j _ _ _ h => ?_,λi R iv z T h => ?_⟩
   · rw[hf]at h;cases h
   · rw[hf]at h;cases h
   · rw[hf]at h;cases h
   · rw[hf];exact hR0 i R iv z T h
 · intro i o ho L vs x hsz fM eF hcl hI
   have hil:i<L.size:=by
    have:=(Array.getElem?_eq_some_iff.1 ho).1
    omega
   have dJ:=wQ l 0 hstep i o (by simpa using ho)
   rw[Nat.zero_add]at dJ
   have hset:(L.setIfInBounds i true).getD i false=true:=by simp[hil]
   have hne:∀ j,j≠i->(L.setIfInBounds i true).getD j false=L.getD j false:=λj hj=>getD_set_ne false (λe=>hj e.symm)
   have hup:∀ (v:Value) j,j≠i->upd vs i v j=vs j:=λv j hj=>by simp[upd,hj]
   have jY:∀ (v:Value),upd vs i v i=v:=λv=>by simp[upd]
   have lq:∀ j,L.getD j false=true->j≠i:=λj hj e=>by rw[e,fM]at hj;cases hj
   have hval:∀ j∈ws.getD i [],(kl.getD j false=true->Aw ws ks i=true)->(Ps.getD j cz) (vs j) x:=λj hj hso=>hI.val j (eF j hj) (λhkj m hm=>by
    cases Jd:L.getD m false with
    |false=>rfl
    |true =>
     exfalso
     have jE:m<ks.length:=getD_lt (by intro e;rw[e]at hm;cases hm)
     have h3:=List.all_eq_true.1 (hso hkj) m (List.mem_range.2 jE)
     rw[hm]at h3
     have:=hcl m Jd i (by simpa using h3)
     rw[fM]at this;cases this)
   have hcont:∀ st iv (z:Array Value) (v:Value),st≠i->iv∈ws.getD st []->(if(L.setIfInBounds i true).getD st false=true then gJ (upd vs i v iv)else z)=if L.getD st false=true then gJ (vs iv)else z:=by
    intro st iv z v hs hw
    rw[hne st hs]
    by_cases h:L.getD st false=true
    · rw[if_pos h,if_pos h,hup v iv (lq iv (hcl st h iv hw))]
    · rw[if_neg h,if_neg h]
   have hgrow:(ks.getD i .op).jL=false->(∀ ia,ks.getD i .op ≠ .st ia)->∀ (v:Value) (y:World),Grow x y->(Ps.getD i cz) v y->(∀ st iv z T,ks.getD i .op = .al st iv z T->v = .pointer (some ⟨x.heap.size,0,none⟩)/\y=x.alloc (.cells z T))->GI kl ks Ps w (L.setIfInBounds i true) (upd vs i v) y:=by
    intro hnr hns v y hg hp kY
    have Iu:Mv (λb=>w.heap.size<=b\/Ci ks (L.setIfInBounds i true) b) w y:=by
     refine Mv.mono (hI.mv.trans hg (λ_ e=>e.elim)) (λb hb => .inl ?_)
     rcases hb with hb|⟨j,iv,z,T,h1,h2⟩
     · exact .inl hb
     · refine .inr ⟨j,iv,z,T,h1,?_⟩
       rw[hne j (lq j h2)];exact h2
    refine⟨Iu,λj hj hkj => ?_,λj st iv z T hj hl => ?_,λj k hjk h1 h2 h3 h4 => ?_,λj R iv z T hj => ?_⟩
    · by_cases e:j=i
      · subst e;rw[jY];exact hp
      · rw[hne j e]at hj
        rw[hup v j e]
        refine(iJ.at j).1 _ _ _ hg (hI.val j hj (λh m hm => ?_))
        have:=hkj h m hm
        by_cases em:m=i
        · subst em;exact fM
        · rw[hne m em]at this;exact this
    · by_cases e:j=i
      · subst e
        obtain⟨hv,hy⟩:=kY st iv z T hj
        obtain⟨k1,k2,k3⟩:=hka j st iv z T hj
        have hst:st≠j:=λe=>by rw[e,hj]at k1;cases k1
        have Je:L.getD st false≠true:=λh=>by have:=hcl st h j k2;rw[fM]at this;cases this
        have hsw:w.heap.size<=x.heap.size:=hI.mv.size
        rw[jY,hne st hst,if_neg Je]
        subst hy
        exact⟨x.heap.size,hv,hsw,by simp,heap_alloc_new x _⟩
      · rw[hne j e]at hl
        obtain⟨k1,k2,k3⟩:=hka j st iv z T hj
        obtain⟨g,hv,h1,h2,h3⟩:=hI.box j st iv z T hj hl
        have hst:st≠i:=λe=>hns j (e ▸ k1)
        refine⟨g,by rw[hup v j e];exact hv,h1,Nat.lt_of_lt_of_le h2 hg.size,?_⟩
        rw[hcont st iv z v hst k3,ah h3 hg]
    · have hw:∀ m,(ks.getD m .op).Af=true->m≠i->(L.setIfInBounds i true).getD m false=true->∃ g,vs m = .pointer (some ⟨g,0,none⟩)/\g<x.heap.size:=by
       intro m hm Jf jE
       rw[hne m Jf]at jE
       cases CP:ks.getD m .op with
       |al st iv z T =>
        obtain⟨g,hv,_,h2,_⟩:=hI.box m st iv z T CP jE
        exact⟨g,hv,h2⟩
       |_=>rw[CP]at hm;cases hm
      by_cases e1:j=i
      · subst e1
        cases hkj:ks.getD j .op with
        |al st iv z T =>
         obtain⟨g,hv,h5⟩:=hw k h2 (λe=>hjk e.symm) h4
         rw[jY,hup v k (λe=>hjk e.symm),(kY st iv z T hkj).1,hv]
         intro e
         simp only[Value.pointer.injEq,Option.some.injEq,Addr.mk.injEq]at e
         omega
        |_=>rw[hkj]at h1;cases h1
      · by_cases e2:k=i
        · subst e2
          cases hkk:ks.getD k .op with
          |al st iv z T =>
           obtain⟨g,hv,h5⟩:=hw j h1 e1 h3
           rw[jY,hup v j e1,(kY st iv z T hkk).1,hv]
           intro e
           simp only[Value.pointer.injEq,Option.some.injEq,Addr.mk.injEq]at e
           omega
          |_=>rw[hkk]at h2;cases h2
        · rw[hne j e1]at h3
          rw[hne k e2]at h4
          rw[hup v j e1,hup v k e2]
          exact hI.apart j k hjk h1 h2 h3 h4
    · have hji:j≠i:=λe=>by rw[← e,hj]at hnr;cases hnr
      obtain⟨h1,h2⟩:=hI.res j R iv z T hj
      refine⟨h1,?_⟩
      rw[hcont j iv z v hji (hkr j R iv z T hj).1,ah h2 hg]
   unfold GStep at dJ
   cases hki:ks.getD i .op with
   |op =>
    rw[hki]at dJ
    refine Gives.mono (dJ vs x (λhr => ?_) hval) (λv y h=>hgrow (by rw[hki];rfl) (λia e=>by rw[hki]at e;cases e) v y h.1 h.2 (λst iv z T e=>by rw[hki]at e;cases e))
    refine Mv.mono hI.mv (λb hb => .inl ?_)
    rcases hb with hb|⟨j,iv,z,T,h1,h2⟩
    · exact hb
    · exfalso
      have hjl:=getD_lt (by rw[h1];simp:ks.getD j .op ≠ .op)
      have h3:=List.all_eq_true.1 hr j (List.mem_range.2 hjl)
      rw[h1]at h3
      have h4:i∈ws.getD j []:=by simpa[Kd.jL]using h3
      have:=hcl j h2 i h4
      rw[fM]at this;cases this
   |al st iv z T =>
    rw[hki]at dJ
    refine Gives.mono (dJ vs x) (λv y h=>hgrow (by rw[hki];rfl) (λia e=>by rw[hki]at e;cases e) v y (by rw[h.2];exact(Mv.refl _ _).alloc _) (by rw[hal i (by rw[hki];simp)];trivial) (λst' dB z' T' e=>by rw[hki]at e;cases e;exact h))
   |st ia =>
    rw[hki]at dJ
    obtain⟨iv,z,T,hia⟩:=hks i ia hki
    obtain⟨k1,k2,k3⟩:=hka ia i iv z T hia
    obtain⟨g,hv,h1,h2,h3⟩:=hI.box ia i iv z T hia (eF ia k2)
    rw[if_neg (by rw[fM];simp)]at h3
    have hmz:=hzs ia i iv z T hia
    refine Gives.mono (dJ i iv z T hia vs x g hv h3 (hval iv k3 (λh=>by rw[hkl ia i iv z T hia]at h;cases h))) (λv y h => ?_)
    obtain⟨hy,hm'⟩:=h
    have hpi:Ps.getD i cz=cz:=hal i (by rw[hki];simp)
    have Zg:ia≠i:=lq ia (eF ia k2)
    refine⟨?_,λj hj hkj => ?_,λj st dB z' T' hj hl => ?_,λj k hjk h4 h5 h6 h7 => ?_,λj R dB z' T' hj => ?_⟩
    · refine Mv.mono (hI.mv.trans hm' (λb e=>by subst e;exact .inl (.inl h1))) (λb hb => .inl ?_)
      rcases hb with hb|⟨j,dB,z',T',h4,h5⟩
      · exact .inl hb
      · refine .inr ⟨j,dB,z',T',h4,?_⟩
        rw[hne j (lq j h5)];exact h5
    · by_cases e:j=i
      · subst e;rw[hpi];trivial
      · rw[hne j e]at hj
        rw[hup v j e]
        have iO:kl.getD j false=false:=by
         cases dz:kl.getD j false with
         |false=>rfl
         |true=>exfalso;have:=hkj dz i (by rw[hki];rfl);rw[hset]at this;cases this
        exact(iJ.at j).2 iO (z,T) hmz g _ _ _ h3 hm' (hI.val j hj (λh=>by rw[iO]at h;cases h))
    · have e:j≠i:=λe=>by rw[e,hki]at hj;cases hj
      rw[hne j e]at hl
      by_cases ej:j=ia
      · subst ej
        rw[hia]at hj
        cases hj
        refine⟨g,by rw[hup v _ e];exact hv,h1,Nat.lt_of_lt_of_le h2 hm'.size,?_⟩
        rw[hset,if_pos rfl,hup v iv (lq iv (eF iv k3))]
        exact hy
      · obtain⟨q1,q2,q3⟩:=hka j st dB z' T' hj
        have hst:st≠i:=λe'=>by rw[e',hki]at q1;cases q1;exact ej rfl
        obtain⟨g',hv',r1,r2,r3⟩:=hI.box j st dB z' T' hj hl
        refine⟨g',by rw[hup v j e];exact hv',r1,Nat.lt_of_lt_of_le r2 hm'.size,?_⟩
        rw[hcont st dB z' v hst q3,hm'.block g' r2 (λe' => ?_)]
        · exact r3
        · subst e'
          exact hI.apart j ia ej (by rw[hj];rfl) (by rw[hia];rfl) hl (eF ia k2) (by rw[hv,hv'])
    · have e1:j≠i:=λe=>by rw[e,hki]at h4;cases h4
      have e2:k≠i:=λe=>by rw[e,hki]at h5;cases h5
      rw[hne j e1]at h6
      rw[hne k e2]at h7
      rw[hup v j e1,hup v k e2]
      exact hI.apart j k hjk h4 h5 h6 h7
    · have hji:j≠i:=λe=>by rw[e,hki]at hj;cases hj
      obtain⟨r1,r2⟩:=hI.res j R dB z' T' hj
      refine⟨r1,?_⟩
      have Jg:R<x.heap.size:=(Array.getElem?_eq_some_iff.1 r2).1
      rw[hcont j dB z' v hji (hkr j R dB z' T' hj).1,hm'.block R Jg (λe=>by omega)]
      exact r2
   |rs R iv z T =>
    rw[hki]at dJ
    obtain⟨k1,k2⟩:=hkr i R iv z T hki
    obtain⟨r1,r2⟩:=hI.res i R iv z T hki
    rw[if_neg (by rw[fM];simp)]at r2
    have hmz:=Jc i R iv z T hki
    refine Gives.mono (dJ vs x r2 (hval iv k1 (λh=>by rw[Ir i R iv z T hki]at h;cases h))) (λv y h => ?_)
    obtain⟨hy,hm'⟩:=h
    have hpi:Ps.getD i cz=cz:=hal i (by rw[hki];simp)
    refine⟨?_,λj hj hkj => ?_,λj st dB z' T' hj hl => ?_,λj k hjk h4 h5 h6 h7 => ?_,λj R' dB z' T' hj => ?_⟩
    · refine Mv.trans (O:=λb=>w.heap.size<=b\/Ci ks (L.setIfInBounds i true) b) (Mv.mono hI.mv (λb hb => .inl ?_)) hm' (λb e => .inl (.inr ⟨i,iv,z,T,by rw[e];exact hki,hset⟩))
      rcases hb with hb|⟨j,dB,z',T',h4,h5⟩
      · exact .inl hb
      · exact .inr ⟨j,dB,z',T',h4,by rw[hne j (lq j h5)];exact h5⟩
    · by_cases e:j=i
      · subst e;rw[hpi];trivial
      · rw[hne j e]at hj
        rw[hup v j e]
        have iO:kl.getD j false=false:=by
         cases dz:kl.getD j false with
         |false=>rfl
         |true=>exfalso;have:=hkj dz i (by rw[hki];rfl);rw[hset]at this;cases this
        exact(iJ.at j).2 iO (z,T) hmz R _ _ _ r2 hm' (hI.val j hj (λh=>by rw[iO]at h;cases h))
    · have e:j≠i:=λe=>by rw[e,hki]at hj;cases hj
      rw[hne j e]at hl
      obtain⟨q1,q2,q3⟩:=hka j st dB z' T' hj
      have hst:st≠i:=λe'=>by rw[e',hki]at q1;cases q1
      obtain⟨g',hv',s1,s2,s3⟩:=hI.box j st dB z' T' hj hl
      refine⟨g',by rw[hup v j e];exact hv',s1,Nat.lt_of_lt_of_le s2 hm'.size,?_⟩
      rw[hcont st dB z' v hst q3,hm'.block g' s2 (λe'=>by omega)]
      exact s3
    · have e1:j≠i:=λe=>by rw[e,hki]at h4;cases h4
      have e2:k≠i:=λe=>by rw[e,hki]at h5;cases h5
      rw[hne j e1]at h6
      rw[hne k e2]at h7
      rw[hup v j e1,hup v k e2]
      exact hI.apart j k hjk h4 h5 h6 h7
    · by_cases e:j=i
      · subst e
        rw[hki]at hj
        cases hj
        refine⟨r1,?_⟩
        rw[hset,if_pos rfl,hup v iv (lq iv (eF iv k1))]
        exact hy
      · have:=k2 j e
        rw[hj]at this;cases this
 · intro L vs x hall hI
   have iw:∀ j,j<ks.length->L.getD j false=true:=λj hj=>hall j (by simpa using hlen ▸ hj)
   refine hend vs x ⟨Mv.mono hI.mv (λb hb => .inl ?_),λj hj iO=>hI.val j (iw j hj) (λh=>by rw[iO]at h;cases h),λi st iv z T hi => ?_,λi j hij h1 h2 => ?_,λi R iv z T hi => ?_⟩
   · rcases hb with hb|⟨i,iv,z,T,h1,h2⟩
     · exact .inl hb
     · exact .inr ⟨i,iv,z,T,h1⟩
   · have hil:=getD_lt (by rw[hi];simp:ks.getD i .op ≠ .op)
     obtain⟨k1,_,_⟩:=hka i st iv z T hi
     have hsl:=getD_lt (by rw[k1];simp:ks.getD st .op ≠ .op)
     obtain⟨g,h1,h2,h3,h4⟩:=hI.box i st iv z T hi (iw i hil)
     rw[if_pos (iw st hsl)]at h4
     exact⟨g,h1,h2,h3,h4⟩
   · have e1:i<ks.length:=getD_lt (by intro e;rw[e]at h1;cases h1)
     have e2:j<ks.length:=getD_lt (by intro e;rw[e]at h2;cases h2)
     exact hI.apart i j hij h1 h2 (iw i e1) (iw j e2)
   · have hil:=getD_lt (by rw[hi];simp:ks.getD i .op ≠ .op)
     have:=(hI.res i R iv z T hi).2
     rw[if_pos (iw i hil)]at this
     exact this
def SK (l:List Oper) (ds:List (Option Tmp)) (ws:List (List Nat)) (kl:List Bool) (Ss:List Sp):Bool:=(List.range l.length).all λi=>match (l[i]?).bind (·.guard)with
 |none=>true
 |some (j,b)=>(ws.getD i []).contains j && ((ds.getD j none).isSome && (!(kl.getD j false) && (match Ss.getD j .n with | .c (.bool c)=>c == b|_=>false)))
theorem YO {l:List Oper} {ds:List (Option Tmp)} {ws:List (List Nat)} {kl:List Bool} {Ss:List Sp} (h:SK l ds ws kl Ss=true):∀ (i:Nat) (o:Oper) (j:Nat) (b:Bool),l.toArray[i]? = some o->o.guard=some (j,b)->(j∈ws.getD i []/\∃ t,ds.getD j none=some t)/\kl.getD j false=false/\∀ v x,((Ss.map Sp.P).getD j cz) v x->v = .bool b:=by
 intro i o j b ho hg
 have ho':l[i]? = some o:=by simpa using ho
 have hi:i<l.length:=(List.getElem?_eq_some_iff.1 ho').1
 have h1:=List.all_eq_true.1 h i (List.mem_range.2 hi)
 rw[ho',Option.bind_some,hg]at h1
 simp only[Bool.and_eq_true,Bool.not_eq_true']at h1
 obtain⟨a1,a2,a3,a4⟩:=h1
 refine⟨⟨by simpa using a1,Option.isSome_iff_exists.1 a2⟩,a3,λv x hv => ?_⟩
 split at a4
 · rename_i c he
   have hj:j<Ss.length:=by
    rcases Nat.lt_or_ge j Ss.length with h|h
    · exact h
    · simp[List.getD,List.getElem?_eq_none h]at he
   have e1:(Ss.map Sp.P).getD j cz=Sp.P (Ss.getD j .n):=by simp[List.getD,hj]
   rw[e1,he]at hv
   have e2:c=b:=by simpa using a4
   subst e2
   exact hv
 · cases a4
theorem wgG {id:Nat} {a:Act} {w:World} {l:List Oper} (N:Nat) (ds:List (Option Tmp)) (ns:List (List Nat)) (T:List Nat) (Ss:List Sp) (iJ:AS ((Ss.map Sp.k).filterMap Kd.zero) T 0 Ss) (hR0:∀ i R iv z t,(Ss.map Sp.k).getD i .op = .rs R iv z t->R<w.drew.heap.size/\w.drew.heap[R]? = some (.cells z t (0,0)))
 (hstep:iX (lT P ds (bK l.toArray) ns T Ss w.drew a) 0 l)
 (hend:∀ (vs:Nat->Value) (x:World),GE T Ss w.drew vs x->Q .normal (aK ds (λj=>sv (Ss.getD j .n) (vs j)) (rg 0 ds) a) x)
 (hm:P.follows .mixedOrders=true:=by kernel_rfl) (hN:a.tmps.size=N:=by rfl) (hok:fI N (l.toArray.map strip) ds (bK l.toArray) ns []=true:=by kernel_rfl) (Kl:SK l ds (bK l.toArray) (jF T Ss.length) Ss=true:=by kernel_rfl) (hkd:tH (bK l.toArray) (jF T Ss.length) (Ss.map Sp.k)=true:=by kernel_rfl) (hlen:(Ss.map Sp.k).length=l.length:=by rfl) (hr:rg 0 ds=List.range l.length:=by rfl) (hc:mi T Ss=true:=by kernel_rfl):(Code.region id l.toArray true).wp P Q a w :=
 wp_region_any hm (Un N ds (bK l.toArray) ns (jF T Ss.length) (Ss.map Sp.k) (Ss.map Sp.P) hN hok (YO Kl) hkd hlen (pW Ss) (by have:=iJ.all;rwa[← List.range_eq_range']at this) hR0 (zw (λ_ _ h=>h.s) _ _ hstep) λvs x h=>by
  have h1:=GE.of h hc
  have h2:=hend vs x h1
  rwa[hr,uP _ _ λj _=>h1.c j]at h2)
end
end Go.Proofs.YtbpodipdfohikaaGreat
