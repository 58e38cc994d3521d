import Derived.Test.YtbpodipdfohikaaGreatK19
set_option linter.unusedSimpArgs false
set_option linter.unusedVariables false
set_option maxRecDepth 100000
set_option maxHeartbeats 25600000
namespace Go.Proofs.YtbpodipdfohikaaGreat
section
open Go.RowKit
theorem nX.ext {n0:Nat} {w:World} {x x':aM} {m m':Nat} {v:Value × Value} {f:dQ} {j:Nat} (h:nX n0 w x m v f j) (hρ:∀ g,x.ρ g ≠ .other->x'.ρ g=x.ρ g) (ha:∀ i,i<m->x'.aH i=x.aH i) (hm:m<=m'):nX n0 w x' m' v f j:=by
 have e:(f.vars.map λu=>x'.aH u.2)=f.vars.map λu=>x.aH u.2:=List.map_congr_left λu hu=>ha _ (h.ids u hu)
 refine⟨h.vars,by rw[e];exact h.cls,λg hg => ?_,λg hg => ?_,λu hu=>Nat.lt_of_lt_of_le (h.ids u hu) hm⟩
 · exact(hρ g (by rw[h.rv g hg];exact λe=>by cases e)).trans (h.rv g hg)
 · exact(hρ g (by rw[h.rc g hg];exact λe=>by cases e)).trans (h.rc g hg)
theorem qR.ext {n0:Nat} {w:World} {x x':aM} {i:Nat} {l:List Int} (h:qR n0 w x i l) (hρ:∀ g,x.ρ g ≠ .other->x'.ρ g=x.ρ g) (ha:x'.aH i=x.aH i) (hi:x'.iv i=x.iv i):qR n0 w x' i l:=by
 refine⟨by rw[ha,hi];exact h.blk,by rw[ha];exact h.low,by rw[ha];exact(hρ _ (by rw[h.rb];exact λe=>by cases e)).trans h.rb,by rw[hi];exact h.row,λg hg => ?_,h.few⟩
 rw[hi]at hg
 exact(hρ g (by rw[h.ri g hg];exact λe=>by cases e)).trans (h.ri g hg)
structure Y4 (w0:World) (p:aB) (fuel:Nat) (w w':World) (x:aM) (s:ai) (K:je->Prop):Prop where
 run:¬ K .run->w'.heap[x.R]? = some (.cells (p.cells ++ [.pointer (some ⟨x.S,0,none⟩),.int .i64 s.steps,.int .i64 fuel,x.ev]).toArray 99 (0,0))
 store:¬ K .store->∃ b,x.fv[0]? = some b/\w'.heap[x.S]? = some (.cells #[b.1,b.2,.int .i64 s.base.locals,x.cv,.pointer (some ⟨x.tp,0,none⟩)] 134 (0,0))
 tape:¬ K .tape->w'.heap[x.tp]? = some (.cells #[.slice none 0 0,.slice none 0 0] 156 (0,0))
 fr:∀ j (h:j<x.fv.length) (h':j<s.frames.length),¬ K (.vars j)->¬ K (.cls j)->nX w0.heap.size w' x s.cells.length x.fv[j] s.frames[j] j
 calls:¬ K .calls->w'.ownsRow w0.heap.size 131 3 x.cv (x.fv.tail.zip s.calls).length (flat qf (x.fv.tail.zip s.calls))
 cell:∀ i (h:i<s.cells.length),¬ K (.cell i)->¬ K (.items i)->qR w0.heap.size w' x i s.cells[i]
 gQ:¬ K .gQ->w'.ownsRow w0.heap.size 3 1 x.ev x.el.length (flat aU x.el)
theorem aG.stays {w0:World} {p:aB} {fuel k:Nat} {w w':World} {x:aM} {s:ai} {O:Nat->Prop} (h:aG w0 p fuel k w x s) (hm:Mv O w w') (K:je->Prop) (hK:∀ g,O g->g<w.heap.size->K (x.ρ g)):Y4 w0 p fuel w w' x s K:=by
 have blk:∀ {g:Nat} {o:Obj},w.heap[g]? = some o->¬ K (x.ρ g)->w'.heap[g]? = some o:=λhb hk=>(hm.block _ (lt_of_block hb) (λe=>hk (hK _ e (lt_of_block hb)))).trans hb
 have hm2:Mv (λg=>O g/\g<w.heap.size) w w':=hm.mono λg e=>by
  rcases Nat.lt_or_ge g w.heap.size with h1|h1
  · exact .inl ⟨e,h1⟩
  · exact .inr h1
 have no:∀ {g:Nat} {r:je},x.ρ g=r->¬ K r->¬ (O g/\g<w.heap.size):=λhr hk e=>hk (hr ▸ hK _ e.1 e.2)
 refine⟨λhk=>blk h.run (by rw[h.dY.1];exact hk),λhk => ?_,λhk=>blk h.tape (by rw[h.dY.2.2];exact hk),λj hj hj' h1 h2=>(h.fr j hj hj').mv hm2 (λg e=>⟨λhr=>no hr h1 e,λhr=>no hr h2 e⟩),λhk=>bu h.calls hm2 (λg hg=>no (h.rl g hg) hk),λi hi h1 h2=>(h.cell i hi).mv hm2 (λg e=>⟨λhr=>no hr h1 e,λhr=>no hr h2 e⟩),λhk=>bu h.gQ hm2 (λg hg=>no (h.re g hg) hk)⟩
 obtain⟨b,hb,hs⟩:=h.store
 exact⟨b,hb,blk hs (by rw[h.dY.2.1];exact hk)⟩
theorem aG.size {w0:World} {p:aB} {fuel k:Nat} {w:World} {x:aM} {s:ai} (h:aG w0 p fuel k w x s):w0.heap.size<=w.heap.size:=h.g.size
theorem lV.role {w0:World} {p:aB} {fuel k:Nat} {w:World} {x:aM} {s:ai} (h:aG w0 p fuel k w x s) {b o:Nat} (hc:lV x s b o):x.ρ b = .store\/x.ρ b = .calls:=by
 rcases hc with⟨-,rfl,-⟩|⟨-,⟨cap,hcv⟩,-⟩
 · exact .inl h.dY.2.1
 · exact .inr (h.rl b (by rw[hcv];rfl))
theorem ai.Tt (s:ai) (f:dQ):(s.setCur f).frames=s.frames.set s.calls.length f:=by
 unfold ai.setCur ai.frames
 by_cases h:s.calls.length=0
 · have:s.calls=[]:=List.eq_nil_of_length_eq_zero h
   simp[this]
 · rw[if_neg h]
   obtain⟨n,hn⟩:∃ n,s.calls.length=n+1:=⟨s.calls.length - 1,by omega⟩
   simp[hn]
theorem ai.TE (s:ai) (f:dQ):(s.setCur f).calls.length=s.calls.length:=by
 unfold ai.setCur
 split <;> simp
theorem aG.XO {w0:World} {p:aB} {fuel k:Nat} {w:World} {x x':aM} {s:ai} {l:List Int} (h:aG w0 p fuel k w x s) (hx:x' = { x with ρ:=x'.ρ,aH:=x'.aH,iv:=x'.iv }) (hρ:∀ g,x.ρ g ≠ .other->x'.ρ g=x.ρ g) (ha:∀ i,i<s.cells.length->x'.aH i=x.aH i/\x'.iv i=x.iv i) (hC:qR w0.heap.size w x' s.cells.length l) (hs:s.cells.length+1<=k+s.steps):aG w0 p fuel k w x' { s with cells:=s.cells ++ [l] } := by
 have no:∀ {g:Nat} {r:je},x.ρ g=r->r ≠ .other->x'.ρ g=r:=λhr hn=>(hρ _ (by rw[hr];exact hn)).trans hr
 have eR:x'.R=x.R:=by rw[hx]
 have eS:x'.S=x.S:=by rw[hx]
 have et:x'.tp=x.tp:=by rw[hx]
 have ef:x'.fv=x.fv:=by rw[hx]
 have ec:x'.cv=x.cv:=by rw[hx]
 have ee:x'.ev=x.ev:=by rw[hx]
 have el:x'.el=x.el:=by rw[hx]
 obtain⟨b,hb,hst⟩:=h.store
 refine⟨h.g,by rw[eR,eS,ee];exact h.run,⟨b,by rw[ef];exact hb,by rw[eS,ec,et];exact hst⟩,by rw[et];exact h.tape,by rw[ef];exact h.kL,λj hj hj' => ?_,by rw[ef,ec];exact h.calls,λi hi => ?_,by rw[ee,el];exact h.gQ,by rw[el];exact h.pK,by rw[eR,eS,et];exact h.low,⟨by rw[eR];exact no h.dY.1 (λe=>by cases e),by rw[eS];exact no h.dY.2.1 (λe=>by cases e),by rw[et];exact no h.dY.2.2 (λe=>by cases e)⟩,λg hg=>no (h.re g (by rw[← ee];exact hg)) (λe=>by cases e),λg hg=>no (h.rl g (by rw[← ec];exact hg)) (λe=>by cases e),⟨by simpa[Nat.add_assoc]using hs,h.bd.2⟩⟩
 · have hj2:j<x.fv.length:=by rw[← ef];exact hj
   have:=(h.fr j hj2 hj').ext (x':=x') (m':=s.cells.length+1) hρ (λi hi=>(ha i hi).1) (by omega)
   simp only[List.length_append,List.length_cons,List.length_nil,Nat.zero_add]
   have e2:x'.fv[j]=x.fv[j]:=by simp only[ef]
   rw[e2];exact this
 · simp only[List.length_append,List.length_cons,List.length_nil,Nat.zero_add]at hi
   rcases Nat.lt_or_ge i s.cells.length with h1|h1
   · simp only[List.getElem_append_left h1]
     exact(h.cell i h1).ext hρ (ha i h1).1 (ha i h1).2
   · obtain rfl:i=s.cells.length:=by omega
     simpa using hC
theorem LQ {α:Type} {f:α->List Value} (hf:∀ x,(f x).length=3) (y:α) (a b c:Value) (hy:f y=[a,b,c]):∀ (l:List α) (i:Nat),i<l.length->flat f (l.set i y)=(((flat f l).set (i * 3) a).set (i * 3+1) b).set (i * 3+2) c
 | [],i,h=>by simp at h
 |z :: l,0,_=>by
  have:=hf z
  match hz:f z,this with
  | [z0,z1,z2],_=>simp[flat,hz,hy]
 |z :: l,i+1,h=>by
  have ih:=LQ hf y a b c hy l i (by simpa using h)
  have hz:=hf z
  simp only[flat,List.map_cons,List.flatten_cons,List.set_cons_succ]at ih ⊢
  rw[ih,List.set_append_right _ _ (by omega),List.set_append_right _ _ (by omega),List.set_append_right _ _ (by omega),hz]
  rw[show(i+1) * 3 - 3=i * 3 by omega,show(i+1) * 3+1 - 3=i * 3+1 by omega,show(i+1) * 3+2 - 3=i * 3+2 by omega]
theorem WO {α:Type} {f:α->List Value} {e base:Nat} {w w':World} {g cap:Nat} {l:List α} {cs:Array Value} {t:TypeId} (hf:∀ x,(f x).length=3) (h:w.ownsRow base e 3 (.slice (some ⟨g,0,none⟩) l.length cap) l.length (flat f l)) (hb:w.heap[g]? = some (.cells cs t (0,0))) (y:α) (a b c:Value) (hy:f y=[a,b,c]) (i:Nat) (hi:i<l.length)
 (hb':w'.heap[g]? = some (.cells (((cs.setIfInBounds (i * 3) a).setIfInBounds (i * 3+1) b).setIfInBounds (i * 3+2) c) t (0,0))):w'.ownsRow base e 3 (.slice (some ⟨g,0,none⟩) l.length cap) (l.set i y).length (flat f (l.set i y)):=by
 refine⟨by simp[oN f 3 hf],.inr ?_⟩
 rcases h.2 with⟨e1,-⟩|⟨g',cap',cur,e1,h1,h2,h3,h4,h5,h6⟩
 · cases e1
 · simp only[Value.slice.injEq,Option.some.injEq,Addr.mk.injEq,true_and,and_true]at e1
   obtain⟨rfl,rfl⟩:=e1
   rw[hb]at h2
   simp only[Option.some.injEq,Obj.cells.injEq,and_true]at h2
   obtain⟨rfl,rfl⟩:=h2
   refine⟨g,cap,_,by simp,h1,hb',by simpa using h3,h4,by simpa using h5,?_⟩
   have e3:l.length * 3<=cs.size:=by
    have:=Nat.mul_le_mul_right 3 h3
    omega
   rw[LQ hf y a b c hy l i hi,← h6]
   simp only[Array.toList_setIfInBounds,List.length_set]
   rw[List.take_set,List.take_set,List.take_set]
theorem ME {α β:Type} (a:α) (b:β):∀ (l:List α) (m:List β) (i:Nat),(l.set i a).zip (m.set i b)=(l.zip m).set i (a,b)
 | [],m,i=>by simp
 |x :: l,[],i=>by cases i <;> simp
 |x :: l,y :: m,0=>by simp
 |x :: l,y :: m,i+1=>by simp[ME a b l m i]
theorem aG.NF {w0:World} {p:aB} {fuel k:Nat} {w w':World} {x x':aM} {s:ai} {b o:Nat} {cs:Array Value} {t:TypeId} {u1 u2:Value} {f':dQ} (h:aG w0 p fuel k w x s) (hc:lV x s b o) (hb:w.heap[b]? = some (.cells cs t (0,0)))
 (hx:x' = { x with fv:=x.fv.set s.calls.length (u1,u2),ρ:=x'.ρ }) (hρ:∀ g,x.ρ g ≠ .other->x'.ρ g=x.ρ g) (hm:Mv (λg=>g=b\/(x.cur s).1.ownBlock=some g\/(x.cur s).2.ownBlock=some g) w w')
 (hb':w'.heap[b]? = some (.cells (((cs.setIfInBounds o u1).setIfInBounds (o+1) u2).setIfInBounds (o+2) (.int .i64 f'.locals)) t (0,0)))
 (hfr:nX w0.heap.size w' x' s.cells.length (u1,u2) f' s.calls.length) (hbd:f'.vars.length<=k+s.steps/\f'.locals<=k+s.steps):aG w0 p fuel k w' x' (s.setCur f'):=by
 have no:∀ {g:Nat} {r:je},x.ρ g=r->r ≠ .other->x'.ρ g=r:=λhr hn=>(hρ _ (by rw[hr];exact hn)).trans hr
 have eR:x'.R=x.R:=by rw[hx]
 have eS:x'.S=x.S:=by rw[hx]
 have et:x'.tp=x.tp:=by rw[hx]
 have ef:x'.fv=x.fv.set s.calls.length (u1,u2):=by rw[hx]
 have ec:x'.cv=x.cv:=by rw[hx]
 have ee:x'.ev=x.ev:=by rw[hx]
 have el:x'.el=x.el:=by rw[hx]
 have ea:x'.aH=x.aH:=by rw[hx]
 have ei:x'.iv=x.iv:=by rw[hx]
 have BX:=hc.role h
 have hlow:w0.heap.size<=b:=by
  rcases hc with⟨-,rfl,-⟩|⟨-,⟨cap,hcv⟩,-⟩
  · exact h.low.2.1
  · exact(bP h.calls b (by rw[hcv];rfl)).1
 have hv:=h.gY
 have st:=h.stays hm (λr=>r=x.ρ b\/r = .vars s.calls.length\/r = .cls s.calls.length) (λg e _=>by
  rcases e with rfl|e|e
  · exact .inl rfl
  · exact .inr (.inl (hv.rv g e))
  · exact .inr (.inr (hv.rc g e)))
 have kn:∀ r:je,r≠x.ρ b->r ≠ .vars s.calls.length->r ≠ .cls s.calls.length->¬ (r=x.ρ b\/r = .vars s.calls.length\/r = .cls s.calls.length):=λr h1 h2 h3 e=>by
  rcases e with e|e|e
  · exact h1 e
  · exact h2 e
  · exact h3 e
 have kb:∀ r:je,r ≠ .store->r ≠ .calls->r≠x.ρ b:=λr h1 h2 e=>by
  rcases BX with e2|e2
  · exact h1 (e.trans e2)
  · exact h2 (e.trans e2)
 have ks:∀ r:je,r ≠ .store->r ≠ .calls->r ≠ .vars s.calls.length->r ≠ .cls s.calls.length->¬ (r=x.ρ b\/r = .vars s.calls.length\/r = .cls s.calls.length):=λr h1 h2=>kn r (kb r h1 h2)
 have hg:Grow w0 w':=by
  refine bM h.g hm (λg e => ?_)
  rcases e with rfl|e|e
  · exact hlow
  · exact(bP hv.vars g e).1
  · exact(bP hv.cls g e).1
 have hfl:x'.fv.length=x.fv.length:=by rw[ef];simp
 have Db:s.calls.length<x.fv.length:=by rw[h.kL];omega
 have hstep:(s.setCur f').steps=s.steps:=by unfold ai.setCur;split <;> rfl
 have hcell:(s.setCur f').cells=s.cells:=by unfold ai.setCur;split <;> rfl
 have EU:=s.Tt f'
 have hcl:=s.TE f'
 have hlt:s.calls.length<s.frames.length:=(zD s).1
 refine⟨hg,?_,?_,?_,by rw[hfl,h.kL,hcl],λj hj hj' => ?_,?_,λi hi => ?_,?_,by rw[el];exact h.pK,by rw[eR,eS,et];exact h.low,⟨by rw[eR];exact no h.dY.1 (λe=>by cases e),by rw[eS];exact no h.dY.2.1 (λe=>by cases e),by rw[et];exact no h.dY.2.2 (λe=>by cases e)⟩,λg hg=>no (h.re g (by rw[← ee];exact hg)) (λe=>by cases e),λg hg=>no (h.rl g (by rw[← ec];exact hg)) (λe=>by cases e),?_⟩
 · rw[eR,eS,ee,hstep]
   exact st.run (ks _ (λe=>by cases e) (λe=>by cases e) (λe=>by cases e) (λe=>by cases e))
 · rcases hc with⟨h0,rfl,rfl⟩|⟨h0,⟨cap,hcv⟩,rfl⟩
   · obtain⟨v,hv',hs⟩:=h.store
     rw[hb]at hs
     simp only[Option.some.injEq,Obj.cells.injEq,and_true]at hs
     obtain⟨rfl,rfl⟩:=hs
     refine⟨(u1,u2),by rw[ef,h0];simp[List.getElem?_set_self,Db,← h0],?_⟩
     rw[eS,ec,et,hb']
     simp[ai.setCur,h0]
   · obtain⟨v,hv',hs⟩:=st.store (kn _ (λe=>by
      have:=h.rl b (by rw[hcv];rfl)
      rw[this]at e;cases e) (λe=>by cases e) (λe=>by cases e))
     refine⟨v,by rw[ef,List.getElem?_set_ne (by omega)];exact hv',?_⟩
     rw[eS,ec,et]
     have:(s.setCur f').base=s.base:=by unfold ai.setCur;rw[if_neg (by omega)]
     rw[this];exact hs
 · rw[et];exact st.tape (ks _ (λe=>by cases e) (λe=>by cases e) (λe=>by cases e) (λe=>by cases e))
 · have hj2:j<x.fv.length:=by rw[← hfl];exact hj
   have qd:j<s.frames.length:=by rw[EU]at hj';simpa using hj'
   by_cases hjj:j=s.calls.length
   · subst hjj
     have e1:x'.fv[s.calls.length]=(u1,u2):=by simp only[ef];simp
     have e2:(s.setCur f').frames[s.calls.length]=f':=by simp only[EU];simp
     rw[e1,e2,hcell];exact hfr
   · have e1:x'.fv[j]=x.fv[j]:=by simp only[ef];rw[List.getElem_set_ne (Ne.symm hjj)]
     have e2:(s.setCur f').frames[j]=s.frames[j]:=by simp only[EU];rw[List.getElem_set_ne (Ne.symm hjj)]
     rw[e1,e2,hcell]
     exact(st.fr j hj2 qd (ks _ (λe=>by cases e) (λe=>by cases e) (λe=>by cases e;exact hjj rfl) (λe=>by cases e)) (ks _ (λe=>by cases e) (λe=>by cases e) (λe=>by cases e) (λe=>by cases e;exact hjj rfl))).ext hρ (λi _=>by rw[ea]) (Nat.le_refl _)
 · rcases hc with⟨h0,rfl,rfl⟩|⟨h0,⟨cap,hcv⟩,rfl⟩
   · have hn:s.calls=[]:=List.eq_nil_of_length_eq_zero h0
     have:=st.calls (kn _ (λe=>by rw[h.dY.2.1]at e;cases e) (λe=>by cases e) (λe=>by cases e))
     have e1:(s.setCur f').calls=[]:=by unfold ai.setCur;rw[if_pos h0];exact hn
     rw[ec,e1]
     rw[hn]at this
     simpa using this
   · obtain⟨m,hmm⟩:∃ m,s.calls.length=m+1:=⟨s.calls.length - 1,by omega⟩
     have e1:(s.setCur f').calls=s.calls.set m f':=by unfold ai.setCur;rw[if_neg (by omega)];simp[hmm]
     have e2:(x.fv.set s.calls.length (u1,u2)).tail=x.fv.tail.set m (u1,u2):=by
      rw[hmm]
      cases x.fv <;> rfl
     rw[ec,e1,ef,e2,ME]
     have hz:=uX h
     rw[hcv]
     have hcall:=h.calls
     rw[hcv,← hz]at hcall
     have:=WO (w':=w') (f:=qf) zO (by exact hcall) hb ((u1,u2),f') u1 u2 (.int .i64 f'.locals) rfl m (by omega) (by rw[hmm]at hb';exact hb')
     simpa[hz]using this
 · rw[hcell]at hi
   simp only[hcell]
   exact(st.cell i hi (ks _ (λe=>by cases e) (λe=>by cases e) (λe=>by cases e) (λe=>by cases e)) (ks _ (λe=>by cases e) (λe=>by cases e) (λe=>by cases e) (λe=>by cases e))).ext hρ (by rw[ea]) (by rw[ei])
 · rw[ee,el];exact st.gQ (ks _ (λe=>by cases e) (λe=>by cases e) (λe=>by cases e) (λe=>by cases e))
 · rw[hcell,hstep,hcl,EU]
   refine⟨h.bd.1,λf hf => ?_,h.bd.2.2⟩
   rcases List.mem_or_eq_of_mem_set hf with h1|rfl
   · exact h.bd.2.1 f h1
   · exact hbd
end
section
open Go.RowKit Go.Instr
attribute [local go_sem ↓] gD
theorem Tryz.Yp:(Tryz.prog.info? 136).map (λi=>(i.zero,i.size,i.bytes))=some (some (.pointer none),1,8):=by kernel_rfl
theorem Tryz.Yq:Elem Tryz.prog 129 136 1 8:=Elem.of Tryz.underlying129 Tryz.Yp rfl (by decide) (by decide)
structure BZ (n0 b o:Nat) (cs:Array Value) (t:TypeId) (v1 v2:Value) (l:List au) (al:List Nat) (d:au) (ca:Nat) (w w':World) (u1 u2:Value):Prop where
 blk:w'.heap[b]? = some (.cells ((cs.setIfInBounds o u1).setIfInBounds (o+1) u2) t (0,0))
 vars:w'.ownsRow n0 50 3 u1 (l ++ [d]).length (flat au.cells (l ++ [d]))
 cls:w'.ownsRow n0 136 1 u2 (al ++ [ca]).length (flat jK (al ++ [ca]))
 mv:Mv (λg=>g=b\/v1.ownBlock=some g\/v2.ownBlock=some g) w w'
 n1:∀ g,u1.ownBlock=some g->v1.ownBlock=some g\/w.heap.size<=g
 n2:∀ g,u2.ownBlock=some g->v2.ownBlock=some g\/w.heap.size<=g
set_option maxRecDepth 100000 in
set_option maxHeartbeats 6400000 in
theorem Ex (n0 b o:Nat) (cs:Array Value) (t:TypeId) (v1 v2:Value) (l:List au) (al:List Nat) (d:au) (ca:Nat) (w:World) (hb:w.heap[b]? = some (.cells cs t (0,0))) (h1:cs[o]? = some v1) (h2:cs[o+1]? = some v2)
 (hv:w.ownsRow n0 50 3 v1 l.length (flat au.cells l)) (hc:w.ownsRow n0 136 1 v2 al.length (flat jK al)) (hn:n0<=w.heap.size) (ht1:t≠50) (ht2:t≠136) (hl:l.length<=900000) (hal:al.length<=900000) :
 Calls Tryz.prog 84 #[.pointer (some ⟨b,o,none⟩),.agg #[.string d.name,.int .u8 d.kind,.int .i64 d.len],.pointer (some ⟨ca,0,none⟩)] w λe w'=>e = .returned (.tuple #[])/\∃ u1 u2,BZ n0 b o cs t v1 v2 l al d ca w w' u1 u2:=by
 obtain⟨ds,dk,dn⟩:=d
 have hbl:=lt_of_block hb
 have aj:=Lib.hid (show Grow w (((w.alloc (.cells #[.string ds,.int .u8 dk,.int .i64 dn] 50)).alloc (.cells #[.string ds,.int .u8 dk,.int .i64 dn] 50)).drew)from((((Mv.refl _ w).alloc _).alloc _).drew))
 have hB:=heap_alloc_new (w.alloc (.cells #[.string ds,.int .u8 dk,.int .i64 dn] 50)) (.cells #[.string ds,.int .u8 dk,.int .i64 dn] 50)
 obtain⟨a1,c1,w2,⟨hok,jh,haw⟩,hr1,hm1,hn1⟩:=kz Tryz.Ez (f:=au.cells) sO v1 (.slice (some ⟨w.heap.size+1,0,none⟩) 1 1) l [⟨ds,dk,dn⟩] n0 (((w.alloc (.cells #[.string ds,.int .u8 dk,.int .i64 dn] 50)).alloc (.cells #[.string ds,.int .u8 dk,.int .i64 dn] 50)).drew) (bu hv aj.out (λ_ _ e=>e)) (ay.dF (f:=au.cells) (l:=[⟨ds,dk,dn⟩]) (λ_=>rfl) (show(((w.alloc (.cells #[.string ds,.int .u8 dk,.int .i64 dn] 50)).alloc (.cells #[.string ds,.int .u8 dk,.int .i64 dn] 50)).drew).heap[w.heap.size+1]? = _ from by rw[World.size_alloc]at hB;exact hB) (by simp[flat,au.cells]) (by simp)) (λy hy u hu=>by simp[au.cells]at hy;subst hy;simp[au.cells]at hu;rcases hu with rfl|rfl|rfl <;> rfl) (by simp[World.drew];omega) (by simp;omega)
 have e0:w.cell? ⟨b,o,none⟩=some v1:=by simp[World.cell?,hb,h1]
 have hW:(((w.alloc (.cells #[.string ds,.int .u8 dk,.int .i64 dn] 50)).alloc (.cells #[.string ds,.int .u8 dk,.int .i64 dn] 50)).drew).heap.size=w.heap.size+1+1:=by show(World.alloc _ _).heap.size=_;simp
 have hn1':∀ g,(Value.slice a1 (l.length+1) c1).ownBlock=some g->v1.ownBlock=some g\/w.heap.size<=g:=λg hg=>(hn1 g hg).imp id (λh=>by omega)
 have QU:=Lib.hid (Mv.mono (O1:=λg=>g=b\/v1.ownBlock=some g\/v2.ownBlock=some g) hm1 (λg e => .inl (.inr (.inl e))))
 have Fs:v1.ownBlock≠some b:=bW hv hb ht1
 have Fu:v2.ownBlock≠some b:=bW hc hb ht2
 have hb2:=(hm1.block b (by omega) Fs).trans (ah hb aj.out)
 have hc2:=bu (bu hc aj.out (λ_ _ e=>e)) hm1 (λg e e2=>uN hc hv (by decide) g e e2)
 have HR1:=Lib.hid hr1
 have hz2:=bB hb2
 have Aj:=lt_of_block hb2
 have e1:w2.cell? ⟨b,o,none⟩=some v1:=by simp[World.cell?,hb2,h1]
 have hs2:=block_setCell (p:=⟨b,o,none⟩) hb2 rfl (.slice a1 (l.length+1) c1)
 have hms:=(Mv.refl (λg=>g=b) w2).setCell (p:=⟨b,o,none⟩) (.inl rfl) (.slice a1 (l.length+1) c1)
 have hsz2:(w2.setCell ⟨b,o,none⟩ (.slice a1 (l.length+1) c1)).heap.size=w2.heap.size:=World.size_setCell ..
 have hc3:=bu hc2 hms (λg e e2=>Fu (by subst e2;exact e))
 have hr3:=bu HR1.out hms (λg e e2=>by
  subst e2
  rcases hn1' _ e with h|h
  · exact Fs h
  · omega)
 generalize hw3:w2.setCell ⟨b,o,none⟩ (.slice a1 (l.length+1) c1)=w3 at *
 have hG3:Grow w3 (w3.alloc (.cells #[.pointer (some ⟨ca,0,none⟩)] 136)):=(Mv.refl _ _).alloc _
 obtain⟨a4,c4,w4,⟨acd,ace,acf⟩,hr4,kJ,oJ⟩:=kz Tryz.Yq (f:=jK) wV v2 (.slice (some ⟨w3.heap.size,0,none⟩) 1 1) al [ca] n0 (w3.alloc (.cells #[.pointer (some ⟨ca,0,none⟩)] 136)) (bu hc3 hG3 (λ_ _ e=>e)) (ay.dF (f:=jK) (l:=[ca]) (λ_=>rfl) (heap_alloc_new w3 _) (by simp[flat,jK]) (by simp)) (λy hy u hu=>by simp[jK]at hu;subst hu;rfl) (by simp;have:=hm1.size;omega) (by simp;omega)
 have hb4:=(kJ.block b (by simp;omega) Fu).trans (ah hs2 hG3)
 have fK:=bu (bu hr3 hG3 (λ_ _ e=>e)) kJ (λg e e2=>uN hr3 hc3 (by decide) g e e2)
 have QV:=bB hb4
 have ZC:=lt_of_block hb4
 have hos:o+1<cs.size:=(Array.getElem?_eq_some_iff.1 h2).1
 have f3:w3.cell? ⟨b,o+1,none⟩=some v2:=by
  rw[World.cell?,hs2]
  simp only[Option.isSome_none,Bool.false_eq_true,if_false]
  rw[Array.getElem?_setIfInBounds_ne (by omega)]
  exact h2
 have f4:w4.cell? ⟨b,o+1,none⟩=some v2:=by
  rw[World.cell?,hb4]
  simp only[Option.isSome_none,Bool.false_eq_true,if_false]
  rw[Array.getElem?_setIfInBounds_ne (by omega)]
  exact h2
 have acg:b<w3.heap.size:=by rw[hsz2];exact Aj
 have hb5:=block_setCell (p:=⟨b,o+1,none⟩) hb4 rfl (.slice a4 (al.length+1) c4)
 have uz:=(Mv.refl (λg=>g=b) w4).setCell (p:=⟨b,o+1,none⟩) (.inl rfl) (.slice a4 (al.length+1) c4)
 have jZ:=Lib.hid (show BZ n0 b o cs t v1 v2 l al ⟨ds,dk,dn⟩ ca w (w4.setCell ⟨b,o+1,none⟩ (.slice a4 (al.length+1) c4)) (.slice a1 (l.length+1) c1) (.slice a4 (al.length+1) c4)from by
  have hsz:w.heap.size+1+1<=w2.heap.size:=by have:=hm1.size;omega
  refine⟨hb5,bu fK uz (λg e e2 => ?_),bu hr4 uz (λg e e2 => ?_),?_,hn1',λg hg=>(oJ g hg).imp id (λh=>by simp at h;omega)⟩
  · subst e2
    rcases hn1' _ e with h|h
    · exact Fs h
    · omega
  · subst e2
    rcases oJ _ e with h|h
    · exact Fu h
    · simp at h;omega
  · refine(((aj.out.mono (O1:=λg=>g=b\/v1.ownBlock=some g\/v2.ownBlock=some g) (λ_ e=>e.elim)).trans QU.out (λ_ e => .inl e)).trans (hms.mono (O1:=λg=>g=b\/v1.ownBlock=some g\/v2.ownBlock=some g) (λ_ e => .inl (.inl e))) (λ_ e => .inl e)).trans ?_ (λ_ e => .inl e)
    exact((hG3.mono (λ_ e=>e.elim)).trans (kJ.mono (O1:=λg=>g=b\/v1.ownBlock=some g\/v2.ownBlock=some g) (λ_ e => .inl (.inr (.inr e)))) (λ_ e => .inl e)).trans (uz.mono (O1:=λg=>g=b\/v1.ownBlock=some g\/v2.ownBlock=some g) (λ_ e => .inl (.inl e))) (λ_ e => .inl e))
 clear hr1 hm1 hn1 hs2 hms hc3 hr3 hG3 hr4 kJ oJ hb4 fK hb5 uz hn1' hc2 QU HR1 hv hc Fs Fu hb hb2 hB aj hsz2 hW
 try simp only
 go_enter Tryz.func84,Tryz.ntmps84
 go_upto_region 1 with fail
 go_region
 try simp only[hw3]
 go_wp2_with fail
 go_end0
 exact⟨rfl,_,_,jZ.out⟩
end
end Go.Proofs.YtbpodipdfohikaaGreat
