import Derived.Test.YtbpodipdfohikaaGreatK39
import Derived.Test.YtbpodipdfohikaaGreatK36
set_option linter.unusedSimpArgs false
set_option linter.unusedVariables false
set_option maxRecDepth 100000
set_option maxHeartbeats 25600000
namespace Go.Proofs.YtbpodipdfohikaaGreat
open Go.RowKit Go.Instr
attribute [local go_sem ↓] gD
theorem fA {w:World} {g g':Nat} {cs cs':Array Value} {t t':TypeId} {z z':Nat × Nat} (h:w.heap[g]? = some (.cells cs t z)) (h':w.heap[g']? = some (.cells cs' t' z')) (ht:t≠t'):g≠g':=λe=>by
 subst e;rw[h]at h';simp only[Option.some.injEq,Obj.cells.injEq]at h';exact ht h'.2.1
theorem Gt {α:Type} (p:α->Bool):∀ (l:List α) (i:Nat) (hi:i<l.length),p l[i]=true->(∀ j (hj:j<l.length),j<i->p l[j]=false)->l.findIdx? p=some i
 | [],i,hi,_,_=>by simp at hi
 |a :: l,0,_,h,_=>by
  simp only[List.getElem_cons_zero]at h
  simp[List.findIdx?_cons,h]
 |a :: l,i+1,hi,h,hn=>by
  have h0:=hn 0 (by simp) (by omega)
  simp only[List.getElem_cons_zero]at h0
  have:=Gt p l i (by simpa using hi) (by simpa using h) (λj hj hji=>by have:=hn (j+1) (by simpa using hj) (by omega);simpa using this)
  simp[List.findIdx?_cons,h0,this]
theorem nN.start {wb w w':World} {S T:Nat} {L:List (List Int)} {aH:List Nat} {dL:List Value} {u1 u2:Value} {R:Nat} {ev:Value} {el:List Int} {vars:List au} {p:aB} {fuel k:Nat} (h:nN wb w S T vars L vars.length aH dL u1 u2) (hg:Grow w w')
 (hR:w'.heap[R]? = some (.cells (p.cells ++ [.pointer (some ⟨S,0,none⟩),.int .i64 0,.int .i64 fuel,ev]).toArray 99 (0,0))) (hRl:w.heap.size<=R) (he:w'.ownsRow w.heap.size 3 1 ev el.length (flat aU el)) (hel:el.length=p.procs.length)
 (hlen:L.length=vars.length) (hL:∀ i (h:i<L.length),L[i].length<=1000) (hk:vars.length<=k) (hk2:k<=1000) (hf:fuel<=500000):∃ x:aM,x.R=R/\x.S=S/\(∀ b,w'.heap.size<=b->x.ρ b = .other)/\(∀ b cs z,w'.heap[b]? = some (.cells cs 97 z)->x.ρ b = .other)/\aG wb p fuel k w' x ⟨L,⟨vars.zipIdx,0⟩,[],0⟩:=by
 have h':=h.later hg
 have hsz:=h.g.size
 have hla:=h.la
 have hli:=h.li
 let ρ:Nat->je:=λg=>if g=R then .run else if g=S then .store else if g=T then .tape else if ev.ownBlock=some g then .gQ else if u1.ownBlock=some g then .vars 0 else if u2.ownBlock=some g then .cls 0 else match aH.findIdx? (λa=>a == g)with
  |some i => .cell i
  |none=>match dL.findIdx? (λv=>v.ownBlock == some g)with
   |some i => .items i
   |none => .other
 have nSR:S≠R:=fA h'.store hR (by decide)
 have nTR:T≠R:=fA h'.tape hR (by decide)
 have nTS:T≠S:=fA h'.tape h'.store (by decide)
 have hcell:∀ i (hi:i<aH.length),w'.heap[aH[i]]? = some (.cells #[dL[i]'(by omega)] 138 (0,0))/\wb.heap.size<=aH[i]/\w'.ownsRow wb.heap.size 3 1 (dL[i]'(by omega)) (L[i]'(by omega)).length (flat aU (L[i]'(by omega))):=λi hi=>h'.cell i hi (by omega) (by omega)
 have rE:∀ g,ev.ownBlock=some g->ρ g = .gQ:=λg hg'=>by
  obtain⟨-,cs,z,hb⟩:=bP he g hg'
  have e1:=fA hb hR (by decide)
  have e2:=fA hb h'.store (by decide)
  have e3:=fA hb h'.tape (by decide)
  simp only[ρ,e1,e2,e3,hg',if_true,if_false]
 have rV:∀ g,u1.ownBlock=some g->ρ g = .vars 0:=λg hg'=>by
  obtain⟨-,cs,z,hb⟩:=bP h'.vars g hg'
  have e1:=fA hb hR (by decide)
  have e2:=fA hb h'.store (by decide)
  have e3:=fA hb h'.tape (by decide)
  have e4:=bW he hb (by decide)
  simp only[ρ,e1,e2,e3,e4,hg',if_true,if_false]
 have rC:∀ g,u2.ownBlock=some g->ρ g = .cls 0:=λg hg'=>by
  obtain⟨-,cs,z,hb⟩:=bP h'.cls g hg'
  have e1:=fA hb hR (by decide)
  have e2:=fA hb h'.store (by decide)
  have e3:=fA hb h'.tape (by decide)
  have e4:=bW he hb (by decide)
  have e5:=bW h'.vars hb (by decide)
  simp only[ρ,e1,e2,e3,e4,e5,hg',if_true,if_false]
 have rA:∀ i (hi:i<aH.length),ρ aH[i] = .cell i:=λi hi=>by
  have hb:=(hcell i hi).1
  have e1:=fA hb hR (by decide)
  have e2:=fA hb h'.store (by decide)
  have e3:=fA hb h'.tape (by decide)
  have e4:=bW he hb (by decide)
  have e5:=bW h'.vars hb (by decide)
  have e6:=bW h'.cls hb (by decide)
  have e7:aH.findIdx? (λa=>a == aH[i])=some i:=Gt _ _ i hi (by simp) (λj hj hji=>by
   have:=List.pairwise_iff_getElem.1 h.da j i hj hi hji
   simpa using this)
  simp only[ρ,e1,e2,e3,e4,e5,e6,e7,if_false]
 have rI:∀ i (hi:i<dL.length),∀ g,dL[i].ownBlock=some g->ρ g = .items i:=λi hi g hg'=>by
  have hc:=(h.cell i (by omega) hi (by omega)).2.2
  obtain⟨-,cs,z,hb0⟩:=bP hc g hg'
  have hb:=ah hb0 hg
  have e1:=fA hb hR (by decide)
  have e2:=fA hb h'.store (by decide)
  have e3:=fA hb h'.tape (by decide)
  have e4:ev.ownBlock≠some g:=λe=>by have h1:=(bP he g e).1;have h2:=lt_of_block hb0;omega
  have e5:=bW h'.vars hb (by decide)
  have e6:=bW h'.cls hb (by decide)
  have e7:aH.findIdx? (λa=>a == g)=none:=by
   rw[List.findIdx?_eq_none_iff]
   intro a ha
   obtain⟨j,hj,rfl⟩:=List.getElem_of_mem ha
   have:=fA hb (hcell j hj).1 (by decide)
   simpa using λe=>this e.symm
  have e8:dL.findIdx? (λv=>v.ownBlock == some g)=some i:=Gt _ _ i hi (by simp[hg']) (λj hj hji=>by
   have:=List.pairwise_iff_getElem.1 h.di j i hj hi hji
   have hn:dL[j].ownBlock≠some g:=λe=>this g e hg'
   simpa using hn)
  simp only[ρ,e1,e2,e3,e4,e5,e6,e7,e8,if_false]
 have rO:∀ g cs z,w'.heap[g]? = some (.cells cs 97 z)->ρ g = .other:=λg cs z hb=>by
  have e1:=fA hb hR (by decide)
  have e2:=fA hb h'.store (by decide)
  have e3:=fA hb h'.tape (by decide)
  have e4:=bW he hb (by decide)
  have e5:=bW h'.vars hb (by decide)
  have e6:=bW h'.cls hb (by decide)
  have e7:aH.findIdx? (λa=>a == g)=none:=by
   rw[List.findIdx?_eq_none_iff]
   intro a ha
   obtain⟨j,hj,rfl⟩:=List.getElem_of_mem ha
   have:=fA hb (hcell j hj).1 (by decide)
   simpa using λe=>this e.symm
  have e8:dL.findIdx? (λv=>v.ownBlock == some g)=none:=by
   rw[List.findIdx?_eq_none_iff]
   intro v hv
   obtain⟨j,hj,rfl⟩:=List.getElem_of_mem hv
   have:=bW (h'.cell j (by omega) hj (by omega)).2.2 hb (by decide)
   simpa using this
  simp only[ρ,e1,e2,e3,e4,e5,e6,e7,e8,if_false]
 have Z8:(vars.zipIdx.map λu=>aH.getD u.2 0)=aH:=by
  apply List.ext_getElem
  · simp[hla]
  · intro i h1 h2
    simp[List.getD,h2]
 let x0:aM := { ρ:=ρ,aH:=λi=>aH.getD i 0,iv:=λi=>dL.getD i (.slice none 0 0),fv:=[(u1,u2)],cv := .slice none 0 0,ev:=ev,el:=el,R:=R,S:=S,tp:=T }
 have st:aG wb p fuel k w' x0 ⟨L,⟨vars.zipIdx,0⟩,[],0⟩:=by
  refine⟨h'.g,hR,⟨(u1,u2),rfl,h'.store⟩,h'.tape,rfl,λj hj hj' => ?_,World.ownsRow_nil _ _ _ _,λi hi => ?_,qO he hsz,hel,⟨Nat.le_trans hsz hRl,h.low⟩,⟨by simp[x0,ρ],by simp[x0,ρ,nSR],by simp[x0,ρ,nTR,nTS]⟩,rE,λg hg'=>by simp[x0,Value.ownBlock]at hg',?_⟩
  · have hj0:j=0:=by simp[x0]at hj;exact hj
    subst hj0
    have e1:(vars.zipIdx.map Prod.fst)=vars:=by simp
    refine⟨?_,?_,rV,rC,λu hu => ?_⟩
    · have hv:=h'.vars
      rw[List.take_length]at hv
      show World.ownsRow _ _ _ _ u1 (vars.zipIdx.map Prod.fst).length (flat au.cells (vars.zipIdx.map Prod.fst))
      rw[e1];exact hv
    · show World.ownsRow _ _ _ _ u2 (vars.zipIdx.map λu=>aH.getD u.2 0).length (flat jK (vars.zipIdx.map λu=>aH.getD u.2 0))
      rw[Z8];exact h'.cls
    · have hm:u∈vars.zipIdx:=hu
      have h3:=(List.mem_zipIdx' hm).1
      show u.2<L.length
      omega
  · have hia:i<aH.length:=by simp only at hi;omega
    have hii:i<dL.length:=by simp only at hi;omega
    obtain⟨c1,c2,c3⟩:=hcell i hia
    have ea:aH.getD i 0=aH[i]:=by simp[List.getD,hia]
    have ei:dL.getD i (.slice none 0 0)=dL[i]:=by simp[List.getD,hii]
    refine⟨?_,?_,?_,?_,λg hg' => ?_,hL i hi⟩
    · show w'.heap[aH.getD i 0]? = some (.cells #[dL.getD i (.slice none 0 0)] _ _)
      rw[ea,ei];exact c1
    · show _<=aH.getD i 0
      rw[ea];exact c2
    · show ρ (aH.getD i 0)=_
      rw[ea];exact rA i hia
    · show World.ownsRow _ _ _ _ (dL.getD i (.slice none 0 0)) _ _
      rw[ei];exact c3
    · have:(dL.getD i (.slice none 0 0)).ownBlock=some g:=hg'
      rw[ei]at this
      exact rI i hii g this
  · refine⟨by show L.length<=k+0;omega,λf hf' => ?_,by show 0<=100;omega,by show 0<=fuel;omega,hf,hk2⟩
    have:f=⟨vars.zipIdx,0⟩:=by simpa[ai.frames]using hf'
    subst this
    exact⟨by show vars.zipIdx.length<=k+0;simp;exact hk,by show 0<=k+0;omega⟩
 obtain⟨x1,hr,ho,hs⟩:=st.fresh
 exact⟨x1,hr.R,hr.S,ho,λb cs z hb=>hr.o b (lt_of_block hb) (rO b cs z hb),hs⟩
theorem VY (n:Nat) (w:World) (hn:n<=1000000):(Instr.makeSlice 52 (.int .i64 n) (.int .i64 n)).run Tryz.prog w = .ok (.slice (some ⟨w.heap.size,0,none⟩) n n) (w.alloc (.cells (Array.replicate n (.slice none 0 0)) 22)):=by
 obtain⟨i0,hi,hz0,hz1,hz2⟩:=info_parts Tryz.Mm
 have:=run_make (P:=Tryz.prog) w 52 22 i0 _ Tryz.underlying52 hi hz0 .i64 .i64 n n (by omega) (Int.le_refl _) (by rw[hz2];omega) (by omega)
 have hm:madeCells (Value.slice none 0 0).cells (n * i0.size)=Array.replicate n (.slice none 0 0):=by
  rw[hz1,Nat.mul_one]
  apply Array.ext
  · simp[madeCells]
  · intro j h1 h2
    simp[madeCells,Value.cells,Nat.mod_one]
 simp only[Int.toNat_natCast]at this
 rw[hm]at this
 exact this
def pF (n:Nat) (vs:List Value):Array Value:=vs.toArray ++ Array.replicate (n - vs.length) (.slice none 0 0)
theorem D7 {n:Nat} {vs:List Value} (h:vs.length<=n):(pF n vs).size=n:=by simp[pF];omega
theorem VZ {n:Nat} {vs:List Value} (h:vs.length<n) (v:Value):(pF n vs).setIfInBounds vs.length v=pF n (vs ++ [v]):=by
 apply Array.ext
 · rw[Array.size_setIfInBounds,D7 (by omega),D7 (by simp;omega)]
 · intro j h1 h2
   rw[Array.size_setIfInBounds,D7 (by omega)]at h1
   rw[Array.getElem_setIfInBounds (by rw[D7 (by omega)];exact h1)]
   by_cases hij:vs.length=j
   · subst hij
     rw[if_pos rfl]
     simp[pF]
   · rw[if_neg hij]
     simp only[pF]
     by_cases hlt:j<vs.length
     · rw[Array.getElem_append_left (by simpa using hlt),Array.getElem_append_left (by simp;omega)]
       simp[List.getElem_append_left hlt]
     · rw[Array.getElem_append_right (by simp;omega),Array.getElem_append_right (by simp;omega)]
       simp
theorem Xi {n:Nat} {vs:List Value} (h:vs.length<n):(pF n vs)[vs.length]? = some (.slice none 0 0):=by
 simp only[pF]
 rw[Array.getElem?_append_right (by simp)]
 simp only[List.size_toArray,Nat.sub_self]
 rw[Array.getElem?_replicate,if_pos (by omega)]
theorem Xj (n:Nat) (h:n<=900000):IntKind.i64.wrap (n:Int)=(n:Int):=IntWalk.i64_in _ (by omega)
structure iH (wb w:World) (M:Nat) (LL:List (List Int)) (vs:List Value):Prop where
 g:Grow wb w
 low:wb.heap.size<=M
 blk:w.heap[M]? = some (.cells (pF LL.length vs) 22 (0,0))
 row:∀ i (h:i<vs.length) (h':i<LL.length),w.ownsRow wb.heap.size 3 1 vs[i] LL[i].length (flat aU LL[i])
theorem iH.later {wb w w':World} {M:Nat} {LL:List (List Int)} {vs:List Value} (h:iH wb w M LL vs) (hg:Grow w w'):iH wb w' M LL vs:=⟨gtr h.g hg,h.low,ah h.blk hg,λi h1 h2=>bu (h.row i h1 h2) hg (λ_ _ e=>e)⟩
theorem iH.more {wb w y:World} {M:Nat} {LL:List (List Int)} {vs:List Value} {v:Value} (h:iH wb w M LL vs) (hg:Grow w y) (hk:vs.length<LL.length) (hv:y.ownsRow w.heap.size 3 1 v LL[vs.length].length (flat aU LL[vs.length])):iH wb (y.setCell ⟨M,vs.length,none⟩ v) M LL (vs ++ [v]):=by
 have hy:=h.later hg
 have hm:Mv (λb=>b=M) y (y.setCell ⟨M,vs.length,none⟩ v):=(Mv.refl (λb=>b=M) y).setCell (p:=⟨M,vs.length,none⟩) (.inl rfl) _
 refine⟨bM hy.g hm (λb e=>by subst e;exact h.low),h.low,?_,λi h1 h2 => ?_⟩
 · rw[block_setCell (p:=⟨M,vs.length,none⟩) hy.blk rfl v,VZ hk]
 · simp only[List.length_append,List.length_cons,List.length_nil,Nat.zero_add]at h1
   rcases Nat.lt_or_ge i vs.length with hlt|hge
   · rw[List.getElem_append_left hlt]
     have hr:=hy.row i hlt h2
     exact bu hr hm (λg e e2=>by subst e2;exact bW hr hy.blk (by decide) e)
   · obtain rfl:i=vs.length:=by omega
     rw[List.getElem_append_right (Nat.le_refl _)]
     simp only[Nat.sub_self,List.getElem_cons_zero]
     exact qO (bu hv hm (λg e e2=>by subst e2;exact bW hv hy.blk (by decide) e)) h.g.size
theorem iH.fill {wb w w':World} {M r:Nat} {LL:List (List Int)} {vs:List Value} {cs:Array Value} {z:Nat × Nat} (h:iH wb w M LL vs) {t:TypeId} (hb:w.heap[r]? = some (.cells cs t z)) (hm:Mv (λb=>b=r) w w') (hr:wb.heap.size<=r) (ht:t≠22:=by decide) (ht2:t≠3:=by decide):iH wb w' M LL vs :=
 ⟨bM h.g hm (λb e=>by subst e;exact hr),h.low,by rw[hm.block M (lt_of_block h.blk) (fA h.blk hb ht.symm)];exact h.blk,λi h1 h2=>bu (h.row i h1 h2) hm (λg e e2=>by subst e2;exact bW (h.row i h1 h2) hb ht2 e)⟩
theorem iH.weak {wa wb w:World} {M:Nat} {LL:List (List Int)} {vs:List Value} (h:iH wb w M LL vs) (hg:Grow wa wb):iH wa w M LL vs:=⟨gtr hg h.g,Nat.le_trans hg.size h.low,h.blk,λi h1 h2=>qO (h.row i h1 h2) hg.size⟩
theorem iH.all {wb w:World} {M:Nat} {LL:List (List Int)} {vs:List Value} (h:iH wb w M LL vs) (hl:vs.length=LL.length) (hn:LL.length<=1000000):Vs w (.slice (some ⟨M,0,none⟩) LL.length LL.length) LL:=by
 refine⟨vs,hl,?_,λi h1 h2=>dW jk (h.row i h1 h2)⟩
 rw[← hl]
 have hb:=h.blk
 refine ay.dF (f:=rq) Er hb ?_ (by omega)
 have e2:∀ l:List Value,flat rq l=l:=λl=>by
  induction l with
  |nil=>rfl
  |cons a l ih=>simp only[flat,List.map_cons,List.flatten_cons]at ih ⊢;rw[ih];rfl
 rw[e2]
 simp[pF,hl]
def YK (w:World) (LL:List (List Int)) (e:Ending) (w':World):Prop:=∃ M,e = .returned (.agg #[.slice (some ⟨M,0,none⟩) LL.length LL.length,.slice none 0 0,.slice none 0 0])/\∃ vs,iH w w' M LL vs/\vs.length=LL.length
def ai.outs (s:ai):List (List Int):=s.base.vars.map λu=>s.cells.getD u.2 []
set_option maxRecDepth 100000 in
set_option maxHeartbeats 6400000 in
theorem V3 (w0:World) (p:aB) (fuel k:Nat) (w:World) (x:aM) (s:ai) (h:aG w0 p fuel k w x s) (hl:s.base.locals=0) (hn:s.base.vars.length<=900000):Calls Tryz.prog 62 #[.pointer (some ⟨x.S,0,none⟩)] w (YK w s.outs):=by
 have HS:=Lib.hid h
 obtain⟨b,hb,hst⟩:=h.store
 have Db:0<x.fv.length:=by rw[h.kL];omega
 have hfr:=h.fr 0 Db (by simp[ai.frames])
 have hx0:x.fv[0]=b:=by rw[List.getElem?_eq_getElem Db]at hb;simpa using hb
 rw[hx0]at hfr
 have hfr:nX w0.heap.size w x s.cells.length b s.base 0:=hfr
 obtain⟨pa,pc,hps⟩:=dX hfr.cls
 have hcl:(s.base.vars.map λu=>x.aH u.2).length=s.outs.length:=by simp[ai.outs]
 have HFR:=Lib.hid (show nX w0.heap.size w x s.cells.length b s.base 0 from hfr)
 have hno:s.outs.length<=900000:=by simpa[ai.outs]using hn
 simp only[hcl]at hps
 rw[hl]at hst
 have HST:=Lib.hid hst
 have HAT:=Lib.hid (λi (hi:i<s.outs.length) y (hy:Grow w y)=>show ∃ pb po,pa=some ⟨pb,po,none⟩/\∃ C a c,y.cell? ⟨pb,po+i,none⟩=some (.pointer (some ⟨C,0,none⟩))/\y.heap[C]? = some (.cells #[.slice a s.outs[i].length c] 138 (0,0))/\ay 1 aU y (.slice a s.outs[i].length c) s.outs[i]/\s.outs[i].length<=1000 from by
  have hi2:i<s.base.vars.length:=by simpa[ai.outs]using hi
  have hi3:i<(s.base.vars.map λu=>x.aH u.2).length:=by simpa using hi2
  have hrow:=(dW (f:=jK) wV hfr.cls).later hy
  rw[hps]at hrow
  obtain⟨pb,po,cap,e,_,hcc⟩:=hrow.at hi3
  simp only[Value.slice.injEq]at e
  obtain⟨rfl,-,-⟩:=e
  have p0:=hcc 0 _ rfl
  simp only[Nat.add_zero,Nat.mul_one,List.getElem_map]at p0
  have hid:=hfr.ids _ (List.getElem_mem hi2)
  have hc:=h.cell _ hid
  have eo:s.outs[i]=s.cells[s.base.vars[i].2]:=by simp[ai.outs,List.getD,hid]
  obtain⟨a,c,ea⟩:=dX hc.row
  have hblk:=ah hc.blk hy
  have hrw:=(dW jk hc.row).later hy
  rw[ea]at hblk hrw
  rw[eo]
  exact⟨pb,po,rfl,_,a,c,p0,hblk,hrw,hc.few⟩)
 have HTI:=Lib.hid (λy (hy:Grow w y)=>And.intro (U1 x.tp y (ah h.tape hy)) (Uh x.tp y (ah h.tape hy)))
 generalize s.outs=LL at *
 have aj:=Lib.hid (show Grow w (w.alloc (.cells #[.slice none 0 0,.slice none 0 0,.slice none 0 0] 54))from(Mv.refl _ w).alloc _)
 have HB1:=Lib.hid (heap_alloc_new w (.cells #[.slice none 0 0,.slice none 0 0,.slice none 0 0] 54))
 obtain⟨b1,b2⟩:=b
 change b2=_ at hps
 subst hps
 clear h hb hst Db hfr hx0 hl hcl
 go_enter Tryz.func62,Tryz.ntmps62
 go_upto_region 3 with fail
 generalize (w.alloc (.cells #[.slice none 0 0,.slice none 0 0,.slice none 0 0] 54))=w1 at *
 have HK:=Lib.hid (λ(y:World) (hy:Grow w1 y)=>ah HST.out (gtr aj.out hy))
 refine wg 56 [some 9,some 10,some 11,some 12,some 13,some 14,some 15,some 16,some 17,some 18,some 19,some 20,some 3] [[],[0],[1],[2],[3],[4],[],[6],[7],[8],[9],[5,10],[11]] [] [.c (.pointer (some ⟨x.S,0,none⟩)),.c (.pointer (some ⟨x.S,0,none⟩)),.c (.pointer (some ⟨x.S,0,none⟩)),.c (.pointer (some ⟨x.S,1,none⟩)),.c (.slice pa LL.length pc),.c (.int .i64 (LL.length:Nat)),.c (.pointer (some ⟨x.S,0,none⟩)),.c (.pointer (some ⟨x.S,0,none⟩)),.c (.pointer (some ⟨x.S,0,none⟩)),.c (.pointer (some ⟨x.S,2,none⟩)),.c (.int .i64 0),.c (.int .i64 (LL.length:Nat)),.c (.int .i64 (LL.length:Nat))] trivial (dm rfl) ?steps ?done
 case steps =>
  refine⟨?s0,?s1,?s2,?s3,?s4,?s5,?s6,?s7,?s8,?s9,?s10,?s11,?s12,trivial⟩
  case s0 =>
   refine oo (λvs x hP => ?_)
   simp only[zS]
   go_simp
   exact gc
  case s1 =>
   refine oo (λvs x hP => ?_)
   simp only[zS]
   go_simp
   exact gc
  case s2 =>
   refine oo (λvs x hP => ?_)
   simp only[zS]
   go_simp
   exact gc
  case s3 =>
   refine oo (λvs x hP => ?_)
   simp only[zS]
   go_simp
   exact gc
  case s4 =>
   refine ok HK (λvs x1 hG HX hP => ?_)
   have hst:=HX.out
   have s1:x1.cell? ⟨x.S,1,none⟩=some (.slice pa LL.length pc):=by simp[World.cell?,hst]
   have hsl:=lt_of_block hst
   clear hst
   simp only[zS]
   go_simp
   exact gc
  case s5 =>
   refine oo (λvs x hP => ?_)
   simp only[zS]
   go_simp
   exact gc
  case s6 =>
   refine oo (λvs x hP => ?_)
   simp only[zS]
   go_simp
   exact gc
  case s7 =>
   refine oo (λvs x hP => ?_)
   simp only[zS]
   go_simp
   exact gc
  case s8 =>
   refine oo (λvs x hP => ?_)
   simp only[zS]
   go_simp
   exact gc
  case s9 =>
   refine oo (λvs x hP => ?_)
   simp only[zS]
   go_simp
   exact gc
  case s10 =>
   refine ok HK (λvs x1 hG HX hP => ?_)
   have hst:=HX.out
   have s2:x1.cell? ⟨x.S,2,none⟩=some (.int .i64 0):=by simp[World.cell?,hst]
   have hsl:=lt_of_block hst
   clear hst
   simp only[zS]
   go_simp
   exact gc
  case s11 =>
   refine ok HK (λvs x1 hG HX hP => ?_)
   have hw:=Xj LL.length hno
   simp only[zS]
   go_simp
   exact gc
  case s12 =>
   refine oo (λvs x hP => ?_)
   simp only[zS]
   go_simp
   exact gc
 case done =>
 intro vs wx hE
 have hG:=hE.grow
 have aO:=Lib.hid (gtr aj.out hG)
 have dZ:=Lib.hid (ah HB1.out hG)
 clear hE hG
 simp only[zS,Nat.reduceAdd]
 have hmk:=VY LL.length wx (by omega)
 go_wp2_with fail
 have aA:=Lib.hid (show Grow w (wx.alloc (.cells (Array.replicate LL.length (.slice none 0 0)) 22))from(gtr aO.out ((Mv.refl _ _).alloc _)))
 have pX:=Lib.hid (show(wx.alloc (.cells (Array.replicate LL.length (.slice none 0 0)) 22)).heap[w.heap.size]? = _ from ah dZ.out ((Mv.refl _ _).alloc _))
 have lI:=Lib.hid (show iH w (wx.alloc (.cells (Array.replicate LL.length (.slice none 0 0)) 22)) wx.heap.size LL []from⟨aA.out,aO.out.size,by rw[heap_alloc_new];simp[pF],λi h=>by simp at h⟩)
 clear hmk aj HB1 aO dZ
 generalize wx.heap.size=M at *
 generalize (wx.alloc (.cells (Array.replicate LL.length (.slice none 0 0)) 22))=w3 at *
 go_loopw [25] (λt wr=>∃ vs:List Value,t = .int .i64 vs.length/\vs.length<=LL.length/\iH w wr M LL vs/\wr.heap[w.heap.size]? = some (.cells #[.slice none 0 0,.slice none 0 0,.slice none 0 0] 54 (0,0))) (λt _=>LL.length - (intOf t).toNat)
 case atStart=>exact⟨[],rfl,Nat.zero_le _,lI.out,pX.out⟩
 obtain⟨vs,rfl,hvl,hu,hbx⟩:=hrel
 have HU:=Lib.hid hu
 have dZ:=Lib.hid hbx
 clear hu hbx lI pX aA
 by_cases hlt:vs.length<LL.length
 · obtain⟨pb,po,rfl,C,a,c,p0,hC,hra,vG⟩:=HAT.out _ hlt wr HU.out.g
   have hst:=ah HST.out HU.out.g
   have s1:wr.cell? ⟨x.S,1,none⟩=some (.slice (some ⟨pb,po,none⟩) LL.length pc):=by simp[World.cell?,hst]
   have hsl:=lt_of_block hst
   have hC0:=cell1 hC
   have yG:=lt_of_block hC
   have hpl:=World.block_lt_of_cell? wr _ p0
   simp only at hpl
   have lF:=Lib.hid (Gs _ _ wr hra (by omega))
   have Ce:=Lib.hid (λy v hg hv=>HU.out.more (y:=y) (v:=v) hg hlt hv)
   have R5:=Lib.hid (λy (hg:Grow wr y)=>And.intro (lt_of_block (ah HU.out.blk hg)) (And.intro (bB (ah HU.out.blk hg) vs.length) (show y.cell? ⟨M,vs.length,none⟩=some (.slice none 0 0)from by simp[World.cell?,ah HU.out.blk hg,Xi hlt])))
   have zh:=Lib.hid (show w.heap.size≠M from fA dZ.out HU.out.blk (by decide))
   have hbd:(vs.length:Int)<(LL.length:Nat):=by omega
   clear hst hC hra vG
   go_wp2_with fail
   refine lF.out.mono ?_
   rintro e w4 ⟨v,rfl,hrow,hg⟩
   have Bd:=Lib.hid (Ce.out w4 v hg hrow)
   have bY:=Lib.hid (ah dZ.out hg)
   obtain⟨jE,hmz,hmc⟩:=R5.out w4 hg
   obtain⟨va,vc,rfl⟩:=dX hrow
   clear hrow hg lF Ce R5 HU dZ s1 hsl hC0 yG p0 hpl
   go_wp2_with fail
   have eH:=Lib.hid (show(w4.setCell ⟨M,vs.length,none⟩ (.slice va LL[vs.length].length vc)).heap[w.heap.size]? = _ from(((Mv.refl (λb=>b=M) w4).setCell (p:=⟨M,vs.length,none⟩) (.inl rfl) _).block _ (lt_of_block bY.out) zh.out).trans bY.out)
   go_roundw
   case rel=>exact⟨vs ++ [.slice va LL[vs.length].length vc],by simp,by simp;omega,Bd.out,eH.out⟩
   case measure=>(simp[intOf] <;> omega)
 · have hle:vs.length=LL.length:=by omega
   have uu:=Lib.hid HU.out
   have xP:=Lib.hid hle
   have HG:=Lib.hid HU.out.g
   rw[hle]
   clear hle hvl hlt
   have hlt':decide ((LL.length:Int)<LL.length)=false:=by simp
   go_upto_region 10 with fail
   have wu:=Lib.hid (λ(y:World) (hy:Grow wr y)=>And.intro (ah HST.out (gtr HG.out hy)) (HTI.out y (gtr HG.out hy)))
   refine kK 11 56 [some 44,some 45,some 46,some 47,some 48,some 49,some 50,some 51,some 52,some 53,some 54] [[],[],[1],[2],[3],[4],[],[6],[7],[8],[9]] [] [.c (.slice (some ⟨M,0,none⟩) LL.length LL.length),.c (.pointer (some ⟨x.S,0,none⟩)),.c (.pointer (some ⟨x.S,0,none⟩)),.c (.pointer (some ⟨x.S,4,none⟩)),.c (.pointer (some ⟨x.tp,0,none⟩)),.c (.slice none 0 0),.c (.pointer (some ⟨x.S,0,none⟩)),.c (.pointer (some ⟨x.S,0,none⟩)),.c (.pointer (some ⟨x.S,4,none⟩)),.c (.pointer (some ⟨x.tp,0,none⟩)),.c (.slice none 0 0)] trivial (dm rfl) ?steps ?done
   case steps =>
    refine⟨?s0,?s1,?s2,?s3,?s4,?s5,?s6,?s7,?s8,?s9,?s10,trivial⟩
    case s0 =>
     refine oo (λvs x hP => ?_)
     simp only[zS]
     go_simp
     exact gc
    case s1 =>
     refine oo (λvs x hP => ?_)
     simp only[zS]
     go_simp
     exact gc
    case s2 =>
     refine oo (λvs x hP => ?_)
     simp only[zS]
     go_simp
     exact gc
    case s3 =>
     refine oo (λvs x hP => ?_)
     simp only[zS]
     go_simp
     exact gc
    case s4 =>
     refine ok wu (λvs x1 hG HX hP => ?_)
     have hst:=HX.out.1
     have s4:x1.cell? ⟨x.S,4,none⟩=some (.pointer (some ⟨x.tp,0,none⟩)):=by simp[World.cell?,hst]
     have hsl:=lt_of_block hst
     clear hst
     simp only[zS]
     go_simp
     exact gc
    case s5 =>
     refine ok wu (λvs x1 hG HX hP => ?_)
     have HC:=Lib.hid HX.out.2.1
     simp only[zS]
     go_simp
     refine(HC.out).mono ?_
     rintro e y ⟨rfl,hg⟩
     exact⟨_,rfl,gq hg rfl⟩
    case s6 =>
     refine oo (λvs x hP => ?_)
     simp only[zS]
     go_simp
     exact gc
    case s7 =>
     refine oo (λvs x hP => ?_)
     simp only[zS]
     go_simp
     exact gc
    case s8 =>
     refine oo (λvs x hP => ?_)
     simp only[zS]
     go_simp
     exact gc
    case s9 =>
     refine ok wu (λvs x1 hG HX hP => ?_)
     have hst:=HX.out.1
     have s4:x1.cell? ⟨x.S,4,none⟩=some (.pointer (some ⟨x.tp,0,none⟩)):=by simp[World.cell?,hst]
     have hsl:=lt_of_block hst
     clear hst
     simp only[zS]
     go_simp
     exact gc
    case s10 =>
     refine ok wu (λvs x1 hG HX hP => ?_)
     have HC:=Lib.hid HX.out.2.2
     simp only[zS]
     go_simp
     refine(HC.out).mono ?_
     rintro e y ⟨rfl,hg⟩
     exact⟨_,rfl,gq hg rfl⟩
   case done =>
   intro vs wx hE
   have hG:=hE.grow
   have HGZ:=Lib.hid (gtr HG.out hG)
   have DJ:=Lib.hid (ah dZ.out hG)
   have HVZ:=Lib.hid (uu.out.later hG)
   clear hE hG
   simp only[zS,Nat.reduceAdd,List.drop_succ_cons,List.drop_zero]
   have oI:=Lib.hid (vB DJ.out (.slice (some ⟨M,0,none⟩) LL.length LL.length) (.slice none 0 0) (.slice none 0 0))
   have HF:=Lib.hid (HVZ.out.fill DJ.out oI.out.2 (Nat.le_refl _))
   obtain⟨c0,c1,c2⟩:=dR DJ.out
   have hbl:=lt_of_block DJ.out
   have zt:=bB DJ.out
   go_wp2_with fail
   obtain⟨t0,t1,t2⟩:=dR oI.out.1
   exact bodyPost_ret (v := .agg #[.slice (some ⟨M,0,none⟩) LL.length LL.length,.slice none 0 0,.slice none 0 0]) (by simp[results,Tryz.results62,go_sem,t0,t1,t2]) rfl ⟨M,rfl,_,HF.out,xP.out⟩
attribute [local go_sem ↓] gD
structure vL (wb w:World) (B:Nat) (v:Value) (vs:List Value):Prop where
 g:Grow wb w
 low:wb.heap.size<=B
 box:w.heap[B]? = some (.cells #[v,.slice none 0 0,.slice none 0 0] 54 (0,0))
 row:w.ownsRow wb.heap.size 22 1 v vs.length (flat rq vs)
theorem vL.later {wb w w':World} {B:Nat} {v:Value} {vs:List Value} (h:vL wb w B v vs) (hg:Grow w w'):vL wb w' B v vs:=⟨gtr h.g hg,h.low,ah h.box hg,bu h.row hg (λ_ _ e=>e)⟩
theorem vL.more {wb w w2:World} {B:Nat} {v v' u:Value} {vs:List Value} (h:vL wb w B v vs) (hr:w2.ownsRow wb.heap.size 22 1 v' (vs ++ [u]).length (flat rq (vs ++ [u]))) (hm:Mv (λb=>v.ownBlock=some b) w w2):(w2.heap[B]? = some (.cells #[v,.slice none 0 0,.slice none 0 0] 54 (0,0)))/\vL wb (w2.setCell ⟨B,0,none⟩ v') B v' (vs ++ [u]):=by
 have nB:v.ownBlock≠some B:=bW h.row h.box (by decide)
 have hb2:=(hm.block B (lt_of_block h.box) nB).trans h.box
 have hm2:=(Mv.refl (λb=>b=B) w2).setCell (p:=⟨B,0,none⟩) (.inl rfl) v'
 refine⟨hb2,bM (bM h.g hm (λb e=>(bP h.row b e).1)) hm2 (λb e=>by subst e;exact h.low),h.low,?_,bu hr hm2 (λg e e2=>by subst e2;exact bW hr hb2 (by decide) e)⟩
 rw[block_setCell (p:=⟨B,0,none⟩) hb2 rfl v']
 rfl
def Za (w:World) (e:Ending) (w':World):Prop:=∃ a n c,e = .returned (.agg #[.slice a n c,.slice none 0 0,.slice none 0 0])/\Grow w w'
set_option maxRecDepth 100000 in
set_option maxHeartbeats 6400000 in
theorem Ui (cv:Value) (L:List (List Int)) (w:World) (hc:Vs w cv L) (hn:L.length<=900000) (hL:∀ i (h:i<L.length),L[i].length<=900000):Calls Tryz.prog 57 #[.agg #[cv,.slice none 0 0,.slice none 0 0]] w (Za w):=by
 obtain⟨ca,cc,rfl⟩:=hc.form
 have HC:=Lib.hid hc
 have HL:=Lib.hid hL
 have aj:=Lib.hid (show Grow w ((w.alloc (.cells #[.slice ca L.length cc,.slice none 0 0,.slice none 0 0] 54)).alloc (.cells #[.slice none 0 0,.slice none 0 0,.slice none 0 0] 54))from((Mv.refl _ w).alloc _).alloc _)
 have HB1:=Lib.hid (show((w.alloc (.cells #[.slice ca L.length cc,.slice none 0 0,.slice none 0 0] 54)).alloc (.cells #[.slice none 0 0,.slice none 0 0,.slice none 0 0] 54)).heap[w.heap.size]? = _ from bS (heap_alloc_new w _) _)
 have hres:=heap_alloc_new (w.alloc (.cells #[.slice ca L.length cc,.slice none 0 0,.slice none 0 0] 54)) (.cells #[.slice none 0 0,.slice none 0 0,.slice none 0 0] 54)
 rw[World.size_alloc]at hres
 have bT:=Lib.hid hres
 clear hc hL hres
 go_enter Tryz.func57,Tryz.ntmps57
 go_upto_region 1 with fail
 generalize ((w.alloc (.cells #[.slice ca L.length cc,.slice none 0 0,.slice none 0 0] 54)).alloc (.cells #[.slice none 0 0,.slice none 0 0,.slice none 0 0] 54))=w1 at *
 have HK:=Lib.hid (λ(y:World) (hy:Grow w1 y)=>ah HB1.out hy)
 refine wg 29 [some 6,some 7,some 8,some 9,some 10,some 11,some 12,some 3,none] [[],[0],[1],[],[3],[4],[2,5],[],[7,6]] [] [.c (.pointer (some ⟨w.heap.size,1,none⟩)),.c (.slice none 0 0),.c (.slice none 0 0),.c (.pointer (some ⟨w.heap.size,2,none⟩)),.c (.slice none 0 0),.c (.slice none 0 0),.c (.agg #[.slice none 0 0,.slice none 0 0,.slice none 0 0]),.al 8 6 #[.slice none 0 0,.slice none 0 0,.slice none 0 0] 54,.st 7] trivial (dm rfl) ?steps ?done
 case steps =>
  refine⟨?s0,?s1,?s2,?s3,?s4,?s5,?s6,?s7,?s8,trivial⟩
  case s0 =>
   refine oo (λvs x hP => ?_)
   simp only[zS]
   go_simp
   exact gc
  case s1 =>
   refine ok HK (λvs x hG HX hP => ?_)
   obtain⟨c0,c1,c2⟩:=dR HX.out
   have hbl:=lt_of_block HX.out
   simp only[zS]
   go_simp
   exact gc
  case s2 =>
   refine ok HK (λvs x hG HX hP => ?_)
   have HC:=Lib.hid (zB x)
   simp only[zS]
   go_simp
   refine(HC.out).mono ?_
   rintro e y ⟨rfl,hg⟩
   exact⟨_,rfl,gq hg rfl⟩
  case s3 =>
   refine oo (λvs x hP => ?_)
   simp only[zS]
   go_simp
   exact gc
  case s4 =>
   refine ok HK (λvs x hG HX hP => ?_)
   obtain⟨c0,c1,c2⟩:=dR HX.out
   have hbl:=lt_of_block HX.out
   simp only[zS]
   go_simp
   exact gc
  case s5 =>
   refine ok HK (λvs x hG HX hP => ?_)
   have HC:=Lib.hid (zB x)
   simp only[zS]
   go_simp
   refine(HC.out).mono ?_
   rintro e y ⟨rfl,hg⟩
   exact⟨_,rfl,gq hg rfl⟩
  case s6 =>
   refine oo (λvs x hP => ?_)
   simp only[zS]
   go_simp
   exact gc
  case s7 =>
   refine oz (λvs x => ?_)
   simp only[zS]
   go_simp
   exact⟨rfl,rfl⟩
  case s8 =>
   refine os (λvs x g hg hb hv => ?_)
   have h6:vs 6 = .agg #[.slice none 0 0,.slice none 0 0,.slice none 0 0]:=hv
   obtain⟨c0,c1,c2⟩:=dR hb
   have zt:=bB hb
   simp only[zS,hg,h6]
   go_simp
   exact⟨(vB hb _ _ _).1,(vB hb _ _ _).2⟩
 case done =>
 intro vs w2 hE
 have hG:=hE.grow
 obtain⟨g7,a7,l7,m7,b7⟩:=hE.box 7
 have HB2:=Lib.hid (ah HB1.out hG)
 have HR2:=Lib.hid (ah bT.out hG)
 have lI:=Lib.hid (show vL w w2 g7 (.slice none 0 0) []from⟨gtr aj.out hG,Nat.le_trans aj.out.size l7,b7,World.ownsRow_nil _ _ _ _⟩)
 have HNR:=Lib.hid (show w.heap.size+1≠g7 from by have h1:=lt_of_block bT.out;have h2:w1.drew.heap.size=w1.heap.size:=rfl;omega)
 clear hE hG b7 l7 m7
 simp only[zS,Nat.reduceAdd,a7]
 obtain⟨c0,c1,c2⟩:=dR HB2.out
 have hbl:=lt_of_block HB2.out
 go_wp2_with fail
 go_loopw [16] (λt wr=>∃ (k:Nat) (v:Value) (us:List Value),t = .int .i64 k/\k<=L.length/\us.length=k/\vL w wr g7 v us/\wr.heap[w.heap.size+1]? = some (.cells #[.slice none 0 0,.slice none 0 0,.slice none 0 0] 54 (0,0))) (λt _=>L.length - (intOf t).toNat)
 case atStart=>exact⟨0,.slice none 0 0,[],rfl,Nat.zero_le _,rfl,lI.out,HR2.out⟩
 obtain⟨k,v,us,rfl,hkl,hvk,hu,hrb⟩:=hrel
 have HU:=Lib.hid hu
 have oG:=Lib.hid hrb
 have R6:=Lib.hid hvk
 clear hu hrb hvk lI HR2 HB2 c0 c1 c2 hbl
 have zh:=Lib.hid HNR.out
 by_cases hlt:k<L.length
 · obtain⟨cb,co,rfl,la,lc,d0,hrl⟩:=(HC.out.later HU.out.g).at hlt
   have hl1:=HL.out k hlt
   have hdl:=World.block_lt_of_cell? wr _ d0
   simp only at hdl
   obtain⟨va,vc,hvv⟩:=dX HU.out.row
   subst hvv
   have hbd:(k:Int)<(L.length:Nat):=by omega
   have lF:=Lib.hid (λy (hy:Grow wr y)=>Gs _ _ y (hrl.later hy) hl1)
   clear hrl
   go_upto_region 5 with fail
   have wI:=Lib.hid (λ(y:World) (hy:Grow wr y)=>And.intro (ah HU.out.box hy) (lF.out y hy))
   refine kK 5 29 [some 20,some 21,some 22,some 23,some 24] [[],[0],[],[2],[3]] [] [.c (.pointer (some ⟨g7,0,none⟩)),.c (.slice va us.length vc),.c (.slice la L[k].length lc),.p (λv y=>∃ a c,v = .slice a L[k].length c/\y.ownsRow wr.heap.size 3 1 (.slice a L[k].length c) L[k].length (flat aU L[k])),.p (λv y=>∃ g,v = .slice (some ⟨g,0,none⟩) 1 1/\∃ a c,y.heap[g]? = some (.cells #[.slice a L[k].length c] 22 (0,0)))] ⟨⟨(λv x y hg h=>by obtain⟨a,c,hv,hb⟩:=h;exact⟨a,c,hv,bu hb hg (λ_ _ e=>e)⟩),λ_=>bg⟩,⟨(λv x y hg h=>by obtain⟨g,hv,a,c,hb⟩:=h;exact⟨g,hv,a,c,ah hb hg⟩),λ_=>bg⟩,trivial⟩ (dm rfl) ?steps ?done
   case steps =>
    refine⟨?s0,?s1,?s2,?s3,?s4,trivial⟩
    case s0 =>
     refine oo (λvs x hP => ?_)
     simp only[zS]
     go_simp
     exact gc
    case s1 =>
     refine ok wI (λvs x hG HX hP => ?_)
     obtain⟨c0,c1,c2⟩:=dR HX.out.1
     have hbl:=lt_of_block HX.out.1
     simp only[zS]
     go_simp
     exact gc
    case s2 =>
     refine oo (λvs x hP => ?_)
     simp only[zS]
     go_simp
     exact gc
    case s3 =>
     refine ok wI (λvs x hG HX hP => ?_)
     have HC:=Lib.hid (HX.out.2)
     simp only[zS]
     go_simp
     refine(HC.out).mono ?_
     rintro e y ⟨v1,rfl,hrow,hg⟩
     obtain⟨a,c,rfl⟩:=dX hrow
     exact⟨_,rfl,hg,_,_,rfl,qO hrow hG.size⟩
    case s4 =>
     refine oo (λvs x hP => ?_)
     have p3:=pq hP 3
     obtain⟨a3,c3,h3,o3⟩:=p3
     simp only[zS,h3]
     go_simp
     exact gl ⟨_,rfl,_,_,heap_alloc_new x _⟩
   case done =>
   intro vs wx hE
   have hG:=hE.grow
   have p3:=hE.val 3
   obtain⟨a3,c3,h3,o3⟩:=p3
   have p4:=hE.val 4
   obtain⟨g4,h4,R7,R9,b4⟩:=p4
   simp only[zS,Nat.reduceAdd,h3,h4,List.drop_succ_cons,List.drop_zero]
   have Bd:=Lib.hid (HU.out.later hG)
   have yH:us.length<=900000:=by have:=R6.out;omega
   obtain⟨a',c',w2,⟨hok,jh,haw⟩,hr2,hm2,-⟩:=kz Tryz.Wl (f:=rq) Er (.slice va us.length vc) (.slice (some ⟨g4,0,none⟩) 1 1) us [.slice R7 L[k].length R9] w.heap.size wx Bd.out.row (ay.dF (f:=rq) (l:=[.slice R7 L[k].length R9]) Er b4 (by rfl) (Nat.le_of_ble_eq_true rfl)) (λy hy u hu=>by simp at hy;subst hy;simp[rq]at hu;subst hu;rfl) Bd.out.g.size (by simp;omega)
   obtain⟨hb2,hnew⟩:=Bd.out.more hr2 hm2
   have jB:=Lib.hid hnew
   have Pj:=Lib.hid ((hm2.block _ (lt_of_block (ah oG.out hG)) (bW Bd.out.row (ah oG.out hG) (by decide))).trans (ah oG.out hG))
   obtain⟨c0,c1,c2⟩:=dR hb2
   have hbl:=lt_of_block hb2
   have zt:=bB hb2
   clear hE hG hb2 hnew hr2 hm2 b4
   go_wp2_with fail
   have Ai:=Lib.hid (show(w2.setCell ⟨g7,0,none⟩ (.slice a' (us.length+1) c')).heap[w.heap.size+1]? = _ from(((Mv.refl (λb=>b=g7) w2).setCell (p:=⟨g7,0,none⟩) (.inl rfl) _).block _ (lt_of_block Pj.out) zh.out).trans Pj.out)
   go_roundw
   case rel=>exact⟨k+1,_,_,by go_num,by omega,by simp;exact R6.out,jB.out,Ai.out⟩
   case measure=>(simp[intOf] <;> omega)
 · obtain rfl:k=L.length:=by omega
   have hlt':decide ((L.length:Int)<L.length)=false:=by simp
   obtain⟨va,vc,hvv⟩:=dX HU.out.row
   subst hvv
   obtain⟨c0,c1,c2⟩:=dR HU.out.box
   have hbl:=lt_of_block HU.out.box
   obtain⟨r0,r1,r2⟩:=dR oG.out
   have hrl:=lt_of_block oG.out
   have zt:=bB oG.out
   have oI:=Lib.hid (vB oG.out (.slice va us.length vc) (.slice none 0 0) (.slice none 0 0))
   have HF:=Lib.hid (bM HU.out.g oI.out.2 (λb e=>by omega))
   go_wp2_with fail
   obtain⟨t0,t1,t2⟩:=dR oI.out.1
   exact bodyPost_ret (v := .agg #[.slice va us.length vc,.slice none 0 0,.slice none 0 0]) (by simp[results,Tryz.results57,go_sem,t0,t1,t2]) rfl ⟨_,_,_,rfl,HF.out⟩
end Go.Proofs.YtbpodipdfohikaaGreat
