import Derived.Test.YtbpodipdfohikaaGreatK25
set_option linter.unusedSimpArgs false
set_option linter.unusedVariables false
set_option maxRecDepth 100000
set_option maxHeartbeats 25600000
namespace Go.Proofs.YtbpodipdfohikaaGreat
open Go.RowKit Go.Instr
attribute [local go_sem ↓] gD
def Z5 (w:World) (l:List Int) (e:Ending) (w':World):Prop:=∃ v,e = .returned v/\w'.ownsRow w.heap.size 3 1 v l.length (flat aU l)/\Grow w w'
set_option maxRecDepth 100000 in
theorem Gs (v:Value) (l:List Int) (w:World) (h:ay 1 aU w v l) (hb:l.length<=900000) :
 Calls Tryz.prog 22 #[v] w (Z5 w l):=by
 obtain⟨a,cap,rfl,hc,hl⟩:=h.form
 cases a with
 |none =>
  obtain rfl:l=[]:=by
   cases l with
   |nil=>rfl
   |cons x l=>obtain⟨b,off,c,e,_⟩:=h.at (i:=0) (by simp);simp at e
  have heq:(binOp .eql 22 (.slice none 0 cap) (.slice none 0 0)).run Tryz.prog w = .ok (.bool true) w:=by
   have:=Lib.run_eql_slice_nil (P:=Tryz.prog) w 22 3 none 0 cap 0 0 Tryz.underlying22
   simpa using this
  go_enter Tryz.func22,Tryz.ntmps22
  go_wp2_with fail
  go_ret
  exact⟨_,rfl,World.ownsRow_nil _ _ _ _,Mv.refl _ _⟩
 |some a =>
  obtain⟨a',c',w2,⟨hok,hv,hw⟩,hrow,hg⟩:=Mj Tryz.xu (f:=aU) jk (.slice (some a) l.length cap) l w.heap.size (w.alloc (.cells #[] 3)) (heap_alloc_new w _) (h.later ((Mv.refl _ _).alloc _)) (λy hy u hu=>by simp[aU]at hu;subst hu;rfl) (by omega)
  have heq:(binOp .eql 22 (.slice (some a) l.length cap) (.slice none 0 0)).run Tryz.prog w = .ok (.bool false) w:=by
   have:=Lib.run_eql_slice_nil (P:=Tryz.prog) w 22 3 (some a) l.length cap 0 0 Tryz.underlying22
   simpa using this
  have HR:=Lib.hid hrow
  have HG:=Lib.hid (Mv.trans ((Mv.refl (λ_=>False) w).alloc (.cells #[] 3)) hg (λ_ e=>e.elim))
  clear h hrow hg
  go_enter Tryz.func22,Tryz.ntmps22
  go_wp2_with fail
  go_ret
  exact⟨_,rfl,HR.out,HG.out⟩
def rq (v:Value):List Value:=[v]
theorem Er (v:Value):(rq v).length=1:=rfl
def Vs (w:World) (cv:Value) (L:List (List Int)):Prop:=∃ vs:List Value,vs.length=L.length/\ay 1 rq w cv vs/\∀ i (h:i<vs.length) (h':i<L.length),ay 1 aU w vs[i] L[i]
theorem Vs.later {w w':World} {cv:Value} {L:List (List Int)} (h:Vs w cv L) (hg:Grow w w'):Vs w' cv L:=by
 obtain⟨vs,h1,h2,h3⟩:=h
 exact⟨vs,h1,h2.later hg,λi h h'=>(h3 i h h').later hg⟩
theorem Vs.form {w:World} {cv:Value} {L:List (List Int)} (h:Vs w cv L):∃ a c,cv = .slice a L.length c:=by
 obtain⟨vs,h1,h2,-⟩:=h
 obtain⟨a,c,rfl,-,-⟩:=h2.form
 exact⟨a,c,by rw[h1]⟩
theorem Vs.at {w:World} {a:Option Addr} {n c:Nat} {L:List (List Int)} (h:Vs w (.slice a n c) L) {i:Nat} (hi:i<L.length):∃ b o,a=some ⟨b,o,none⟩/\∃ la lc,w.cell? ⟨b,o+i,none⟩=some (.slice la L[i].length lc)/\ay 1 aU w (.slice la L[i].length lc) L[i]:=by
 obtain⟨vs,h1,h2,h3⟩:=h
 have hi':i<vs.length:=by omega
 obtain⟨b,o,cap,e,_,hc⟩:=h2.at hi'
 simp only[Value.slice.injEq]at e
 obtain⟨rfl,-,-⟩:=e
 have c0:=hc 0 _ rfl
 have hr:=h3 i hi' hi
 obtain⟨la,lc,e,-,-⟩:=hr.form
 rw[e]at c0 hr
 exact⟨b,o,rfl,la,lc,by simpa using c0,hr⟩
set_option maxRecDepth 100000 in
set_option maxHeartbeats 6400000 in
theorem Xh (vv cv:Value) (vars:List au) (L:List (List Int)) (w:World) (hv:ay 3 au.cells w vv vars) (hc:Vs w cv L) (hval:oW vars=true) (hlen:L.length=vars.length) (hk:∀ i (h:i<vars.length),vars[i].kind=3) (hL:∀ i (h:i<L.length),L[i].length<=1000) :
 Calls Tryz.prog 82 #[vv,.agg #[cv,.slice none 0 0,.slice none 0 0]] w (eP w true):=by
 obtain⟨va,vc,rfl,oF,hvl⟩:=hv.form
 obtain⟨ca,cc,rfl⟩:=hc.form
 have R3:=Lib.hid (λz (hz:Grow w z)=>Uv (.slice va vars.length vc) vars z (hv.later hz))
 simp only[hval]at R3
 have HV:=Lib.hid hv
 have HC:=Lib.hid hc
 have HK:=Lib.hid hk
 have HL:=Lib.hid hL
 have HLEN:=Lib.hid hlen
 have aj:=Lib.hid (show Grow w (w.alloc (.cells #[.slice ca L.length cc,.slice none 0 0,.slice none 0 0] 54))from(Mv.refl _ w).alloc _)
 have HB1:=Lib.hid (heap_alloc_new w (.cells #[.slice ca L.length cc,.slice none 0 0,.slice none 0 0] 54))
 rw[hlen]at aj HB1 ⊢
 clear hv hc hval hk hL hlen
 go_enter Tryz.func82,Tryz.ntmps82
 go_upto_region 1 with fail
 generalize (w.alloc (.cells #[.slice ca vars.length cc,.slice none 0 0,.slice none 0 0] 54))=w1 at *
 go_wp2_with fail
 refine(R3.out _ aj.out).mono ?_
 rintro e w2 ⟨rfl,hg⟩
 have HG2:=Lib.hid (gtr aj.out hg)
 have HB2:=Lib.hid (ah HB1.out hg)
 obtain⟨b0,b1,b2⟩:=dR HB2.out
 have hbl:=lt_of_block HB2.out
 clear hg
 go_wp2_with fail
 go_loopw [32] (λt wr=>∃ k:Nat,t = .int .i64 k/\k<=vars.length/\Grow w2 wr) (λt _=>vars.length - (intOf t).toNat)
 case atStart=>exact⟨0,rfl,Nat.zero_le _,Mv.refl _ _⟩
 obtain⟨k,rfl,hkl,hg⟩:=hrel
 have HG:=Lib.hid hg
 clear hg
 by_cases hlt:k<vars.length
 · obtain⟨b,off,cap',e,_,hcc⟩:=(HV.out.later (gtr HG2.out HG.out)).at hlt
   simp only[Value.slice.injEq,true_and]at e
   obtain⟨rfl,rfl⟩:=e
   have c0:=hcc 0 _ rfl
   have c1:=hcc 1 _ rfl
   have c2:=hcc 2 _ rfl
   have hkk:=HK.out k hlt
   generalize vars[k]=x at *
   obtain⟨xs,xk,xn⟩:=x
   simp only at hkk
   subst hkk
   simp only[Nat.add_zero]at c0 c1 c2
   have hbx:b<wr.heap.size:=World.block_lt_of_cell? wr _ c0
   have lh:k<L.length:=by have:=HLEN.out;omega
   obtain⟨cb,co,rfl,la,lc,d0,-⟩:=((HC.out.later (gtr HG2.out HG.out))).at lh
   have hl1:=HL.out k lh
   generalize L[k].length=ln at *
   have hd:decide ((1000:Int)<ln)=false:=by simp;omega
   have hdl:cb<wr.heap.size:=World.block_lt_of_cell? wr _ d0
   obtain⟨b0,b1,b2⟩:=dR (ah HB2.out HG.out)
   have hbl:=lt_of_block (ah HB2.out HG.out)
   have hcb:(k:Int)<(vars.length:Nat):=by omega
   clear hcc lh
   go_wp2_with fail
   go_roundw
   case rel=>exact⟨k+1,by go_num,by omega,HG.out.alloc _⟩
   case measure=>(simp[intOf] <;> omega)
 · obtain rfl:k=vars.length:=by omega
   have hlt':decide ((vars.length:Int)<vars.length)=false:=by simp
   have fD:=Lib.hid (gtr HG2.out HG.out)
   go_wp2_with fail
   go_ret
   exact⟨rfl,fD.out⟩
def Y9 (w:World) (e:Ending) (w':World):Prop:=∃ T,e = .returned (.tuple #[.pointer (some ⟨T,0,none⟩),.int .i64 0])/\w.heap.size<=T/\w'.heap[T]? = some (.cells #[.slice none 0 0,.slice none 0 0] 156 (0,0))/\Grow w w'
set_option maxRecDepth 100000 in
set_option maxHeartbeats 6400000 in
theorem Ug (w:World):Calls Tryz.prog 83 #[.slice none 0 0,.slice none 0 0] w (Y9 w):=by
 go_enter Tryz.func83,Tryz.ntmps83
 go_wp2_with fail
 refine(zB _).mono ?_
 rintro e w2 ⟨rfl,hg⟩
 have HG:=Lib.hid hg
 clear hg
 go_wp2_with fail
 refine(zB _).mono ?_
 rintro e w3 ⟨rfl,hg⟩
 have HG2:=Lib.hid (gtr HG.out hg)
 clear hg
 have hb:=heap_alloc_new w3 (.cells #[.slice none 0 0,.slice none 0 0] 156)
 have HB:=Lib.hid hb
 go_wp2_with fail
 go_ret2
 exact⟨_,rfl,HG2.out.size,HB.out,HG2.out.alloc _⟩
set_option maxRecDepth 100000 in
theorem U1 (T:Nat) (w:World) (hb:w.heap[T]? = some (.cells #[.slice none 0 0,.slice none 0 0] 156 (0,0))):Calls Tryz.prog 89 #[.pointer (some ⟨T,0,none⟩)] w λe w'=>e = .returned (.slice none 0 0)/\Grow w w':=by
 obtain⟨c0,c1⟩:=Ij hb
 have hl:=lt_of_block hb
 clear hb
 go_enter Tryz.func89,Tryz.ntmps89
 go_wp2_with fail
 refine(zB _).mono ?_
 rintro e w2 ⟨rfl,hg⟩
 have HG:=Lib.hid hg
 clear hg
 go_wp2_with fail
 go_ret
 exact⟨rfl,HG.out⟩
set_option maxRecDepth 100000 in
theorem Uh (T:Nat) (w:World) (hb:w.heap[T]? = some (.cells #[.slice none 0 0,.slice none 0 0] 156 (0,0))):Calls Tryz.prog 90 #[.pointer (some ⟨T,0,none⟩)] w λe w'=>e = .returned (.slice none 0 0)/\Grow w w':=by
 obtain⟨c0,c1⟩:=Ij hb
 have hl:=lt_of_block hb
 clear hb
 go_enter Tryz.func90,Tryz.ntmps90
 go_wp2_with fail
 refine(zB _).mono ?_
 rintro e w2 ⟨rfl,hg⟩
 have HG:=Lib.hid hg
 clear hg
 go_wp2_with fail
 go_ret
 exact⟨rfl,HG.out⟩
theorem qO {α:Type} {f:α->List Value} {n e base base':Nat} {w:World} {v:Value} {l:List α} (h:w.ownsRow base e n v l.length (flat f l)) (hb:base'<=base):w.ownsRow base' e n v l.length (flat f l) :=
 ⟨h.1,h.2.imp id λ⟨g,cap,cur,e1,e2,e3⟩=>⟨g,cap,cur,e1,Nat.le_trans hb e2,e3⟩⟩
def YJ (a b:Value):Prop:=∀ g,a.ownBlock=some g->b.ownBlock≠some g
structure nN (wb w:World) (S T:Nat) (vars:List au) (L:List (List Int)) (k:Nat) (aH:List Nat) (dL:List Value) (u1 u2:Value):Prop where
 g:Grow wb w
 store:w.heap[S]? = some (.cells #[u1,u2,.int .i64 0,.slice none 0 0,.pointer (some ⟨T,0,none⟩)] 134 (0,0))
 tape:w.heap[T]? = some (.cells #[.slice none 0 0,.slice none 0 0] 156 (0,0))
 low:wb.heap.size<=S/\wb.heap.size<=T
 vars:w.ownsRow wb.heap.size 50 3 u1 (vars.take k).length (flat au.cells (vars.take k))
 cls:w.ownsRow wb.heap.size 136 1 u2 aH.length (flat jK aH)
 la:aH.length=k
 li:dL.length=k
 cell:∀ i (h:i<aH.length) (h':i<dL.length) (h2:i<L.length),w.heap[aH[i]]? = some (.cells #[dL[i]] 138 (0,0))/\wb.heap.size<=aH[i]/\w.ownsRow wb.heap.size 3 1 dL[i] L[i].length (flat aU L[i])
 da:aH.Pairwise (· ≠ ·)
 di:dL.Pairwise YJ
theorem nN.later {wb w w':World} {S T k:Nat} {vars:List au} {L:List (List Int)} {aH:List Nat} {dL:List Value} {u1 u2:Value} (h:nN wb w S T vars L k aH dL u1 u2) (hg:Grow w w'):nN wb w' S T vars L k aH dL u1 u2 :=
 ⟨gtr h.g hg,ah h.store hg,ah h.tape hg,h.low,bu h.vars hg (λ_ _ e=>e),bu h.cls hg (λ_ _ e=>e),h.la,h.li,λi h1 h2 h3=>⟨ah (h.cell i h1 h2 h3).1 hg,(h.cell i h1 h2 h3).2.1,bu (h.cell i h1 h2 h3).2.2 hg (λ_ _ e=>e)⟩,h.da,h.di⟩
theorem nN.more {wb w y w6:World} {S T k C:Nat} {vars:List au} {L:List (List Int)} {aH:List Nat} {dL:List Value} {u1 u2 v1 v2 iv:Value} (h:nN wb w S T vars L k aH dL u1 u2) (hg:Grow w y) (hk:k<vars.length) (hL:k<L.length)
 (hC:y.heap[C]? = some (.cells #[iv] 138 (0,0))) (yG:w.heap.size<=C) (jg:y.ownsRow w.heap.size 3 1 iv L[k].length (flat aU L[k]))
 (ha:BZ wb.heap.size S 0 #[u1,u2,.int .i64 0,.slice none 0 0,.pointer (some ⟨T,0,none⟩)] 134 u1 u2 (vars.take k) aH vars[k] C y w6 v1 v2):nN wb w6 S T vars L (k+1) (aH ++ [C]) (dL ++ [iv]) v1 v2:=by
 have hy:=h.later hg
 have nS:∀ {g:Nat} {cs:Array Value} {t:TypeId} {z:Nat × Nat},y.heap[g]? = some (.cells cs t z)->t≠134->g≠S:=λhb ht e=>by
  subst e;rw[hy.store]at hb;simp only[Option.some.injEq,Obj.cells.injEq]at hb;exact ht hb.2.1.symm
 have Im:∀ {g:Nat} {cs:Array Value} {t:TypeId} {z:Nat × Nat},y.heap[g]? = some (.cells cs t z)->t≠134->t≠50->t≠136->w6.heap[g]? = some (.cells cs t z):=λhb h1 h2 h3=>by
  rw[ha.mv.block _ (lt_of_block hb)]
  · exact hb
  · rintro(e|e|e)
    · exact nS hb h1 e
    · exact bW hy.vars hb h2 e
    · exact bW hy.cls hb h3 e
 have keepR:∀ {base:Nat} {v:Value} {l:List Int},y.ownsRow base 3 1 v l.length (flat aU l)->w6.ownsRow base 3 1 v l.length (flat aU l):=λhr =>
  bu hr ha.mv (λg hg'=>by
   obtain⟨-,cs,z,hb⟩:=bP hr g hg'
   rintro(e|e|e)
   · exact nS hb (by decide) e
   · exact bW hy.vars hb (by decide) e
   · exact bW hy.cls hb (by decide) e)
 have hsz:=h.g.size
 have hal:=h.la
 have hil:=h.li
 refine⟨bM hy.g ha.mv (λg e => ?_),?_,Im hy.tape (by decide) (by decide) (by decide),h.low,?_,ha.cls,by simp[hal],by simp[hil],λi h1 h2 h3 => ?_,?_,?_⟩
 · rcases e with rfl|e|e
   · exact h.low.1
   · exact(bP h.vars g e).1
   · exact(bP h.cls g e).1
 · have:=ha.blk
   simpa using this
 · have:=ha.vars
   rwa[← List.take_succ_eq_append_getElem hk]at this
 · simp only[List.length_append,List.length_cons,List.length_nil,Nat.zero_add]at h1 h2
   rcases Nat.lt_or_ge i k with hlt|hge
   · rw[List.getElem_append_left (by omega),List.getElem_append_left (by omega)]
     obtain⟨e1,e2,e3⟩:=hy.cell i (by omega) (by omega) h3
     exact⟨Im e1 (by decide) (by decide) (by decide),e2,keepR e3⟩
   · obtain rfl:i=k:=by omega
     rw[List.getElem_append_right (by omega),List.getElem_append_right (by omega)]
     simp only[hal,hil,Nat.sub_self,List.getElem_cons_zero]
     exact⟨Im hC (by decide) (by decide) (by decide),Nat.le_trans hsz yG,qO (keepR jg) hsz⟩
 · rw[List.pairwise_append]
   refine⟨h.da,by simp,λa ha' b hb' => ?_⟩
   rw[List.mem_singleton.1 hb']
   obtain⟨i,hi,rfl⟩:=List.getElem_of_mem ha'
   have:=lt_of_block (h.cell i hi (by omega) (by omega)).1
   omega
 · rw[List.pairwise_append]
   refine⟨h.di,by simp,λa ha' b hb' => ?_⟩
   rw[List.mem_singleton.1 hb']
   obtain⟨i,hi,rfl⟩:=List.getElem_of_mem ha'
   intro g e1 e2
   obtain⟨-,cs,z,hb⟩:=bP (h.cell i (by omega) hi (by omega)).2.2 g e1
   have h1:=lt_of_block hb
   have h2:=(bP jg g e2).1
   omega
def Z6 (w:World) (vars:List au) (L:List (List Int)) (e:Ending) (w':World):Prop:=∃ S,e = .returned (.tuple #[.pointer (some ⟨S,0,none⟩),.int .i64 0])/\∃ T aH dL u1 u2,nN w w' S T vars L vars.length aH dL u1 u2
set_option maxRecDepth 100000 in
set_option maxHeartbeats 6400000 in
theorem X6 (vv cv:Value) (vars:List au) (L:List (List Int)) (w:World) (hv:ay 3 au.cells w vv vars) (hc:Vs w cv L) (hval:oW vars=true) (hlen:L.length=vars.length) (hk:∀ i (h:i<vars.length),vars[i].kind=3) (hL:∀ i (h:i<L.length),L[i].length<=1000) :
 Calls Tryz.prog 58 #[vv,.agg #[cv,.slice none 0 0,.slice none 0 0]] w (Z6 w vars L):=by
 have h32:vars.length<=32:=by simp only[oW,Bool.and_eq_true,decide_eq_true_eq]at hval;exact hval.1
 have uG:=Lib.hid (λz (hz:Grow w z)=>Xh vv cv vars L z (hv.later hz) (hc.later hz) hval hlen hk hL)
 obtain⟨va,vc,rfl,oF,hvl⟩:=hv.form
 obtain⟨ca,cc,rfl⟩:=hc.form
 have HV:=Lib.hid hv
 have HC:=Lib.hid hc
 have FT:=Lib.hid hk
 have HL:=Lib.hid hL
 have HLEN:=Lib.hid hlen
 have aj:=Lib.hid (show Grow w (w.alloc (.cells #[.slice ca L.length cc,.slice none 0 0,.slice none 0 0] 54))from(Mv.refl _ w).alloc _)
 have HB1:=Lib.hid (heap_alloc_new w (.cells #[.slice ca L.length cc,.slice none 0 0,.slice none 0 0] 54))
 rw[hlen]at aj HB1 uG HC ⊢
 clear hv hc hval hk hL hlen
 go_enter Tryz.func58,Tryz.ntmps58
 go_upto_region 1 with fail
 generalize (w.alloc (.cells #[.slice ca vars.length cc,.slice none 0 0,.slice none 0 0] 54))=w1 at *
 obtain⟨b0,b1,b2⟩:=dR HB1.out
 have hbl:=lt_of_block HB1.out
 go_wp2_with fail
 refine(uG.out _ aj.out).mono ?_
 rintro e w2 ⟨rfl,hg⟩
 have HG2:=Lib.hid (gtr aj.out hg)
 have HB2:=Lib.hid (ah HB1.out hg)
 clear hg uG b0 b1 b2 hbl aj HB1
 obtain⟨b0,b1,b2⟩:=dR HB2.out
 have hbl:=lt_of_block HB2.out
 go_wp2_with fail
 refine(Ug w2).mono ?_
 rintro e w3 ⟨T,rfl,FZ,hT,hg⟩
 have aA:=Lib.hid (gtr HG2.out hg)
 have HB3:=Lib.hid (ah HB2.out hg)
 have hS:=heap_alloc_new w3 (.cells #[.slice none 0 0,.slice none 0 0,.int .i64 0,.slice none 0 0,.pointer (some ⟨T,0,none⟩)] 134)
 have F3:Grow w3 (w3.alloc (.cells #[.slice none 0 0,.slice none 0 0,.int .i64 0,.slice none 0 0,.pointer (some ⟨T,0,none⟩)] 134)):=(Mv.refl _ _).alloc _
 have bA:=Lib.hid (gtr aA.out F3)
 have bY:=Lib.hid (ah HB3.out F3)
 have HU:=Lib.hid (show nN w _ w3.heap.size T vars L 0 [] [] (.slice none 0 0) (.slice none 0 0)from⟨bA.out,hS,ah hT F3,⟨aA.out.size,Nat.le_trans HG2.out.size FZ⟩,World.ownsRow_nil _ _ _ _,World.ownsRow_nil _ _ _ _,rfl,rfl,λi h=>by simp at h,.nil,.nil⟩)
 clear hg HB2 HG2 FZ hT hS F3 b0 b1 b2 hbl
 go_wp2_with fail
 generalize (w3.alloc (.cells #[.slice none 0 0,.slice none 0 0,.int .i64 0,.slice none 0 0,.pointer (some ⟨T,0,none⟩)] 134))=w5 at *
 generalize w3.heap.size=S at *
 go_loopw [30] (λt wr=>∃ k:Nat,t = .int .i64 k/\k<=vars.length/\∃ aH dL u1 u2,nN w wr S T vars L k aH dL u1 u2/\wr.heap[w.heap.size]? = some (.cells #[.slice ca vars.length cc,.slice none 0 0,.slice none 0 0] 54 (0,0))) (λt _=>vars.length - (intOf t).toNat)
 case atStart=>exact⟨0,rfl,Nat.zero_le _,_,_,_,_,HU.out,bY.out⟩
 obtain⟨k,rfl,hkl,aH,dL,u1,u2,hu,hbx⟩:=hrel
 have lI:=Lib.hid hu
 have dZ:=Lib.hid hbx
 clear hu hbx HU bY bA aA HB3
 by_cases hlt:k<vars.length
 · obtain⟨b,off,cap',e,_,hcc⟩:=(HV.out.later lI.out.g).at hlt
   simp only[Value.slice.injEq,true_and]at e
   obtain⟨rfl,rfl⟩:=e
   have c0:=hcc 0 _ rfl
   have c1:=hcc 1 _ rfl
   have c2:=hcc 2 _ rfl
   have hkk:=FT.out k hlt
   have lh:k<L.length:=by have:=HLEN.out;omega
   obtain⟨cb,co,rfl,la,lc,d0,hrl⟩:=(HC.out.later lI.out.g).at lh
   have Ce:=Lib.hid (λy w6 C iv v1 v2 hg hC yG jg ha=>lI.out.more (y:=y) (w6:=w6) (C:=C) (iv:=iv) (v1:=v1) (v2:=v2) hg hlt lh hC yG jg ha)
   generalize vars[k]=x at *
   obtain⟨xs,xk,xn⟩:=x
   simp only at hkk
   subst hkk
   simp only[Nat.add_zero]at c0 c1 c2
   have hbv:b<wr.heap.size:=World.block_lt_of_cell? wr _ c0
   have FW:=Lib.hid hlt
   have hl1:=HL.out k lh
   have zf:=Lib.hid (show Grow wr (wr.alloc (.cells #[.string xs,.int .u8 3,.int .i64 xn] 50))from(Mv.refl _ wr).alloc _)
   have xY:=Lib.hid (heap_alloc_new wr (.cells #[.string xs,.int .u8 3,.int .i64 xn] 50))
   have HD0:=Lib.hid (λy (hy:Grow wr y)=>And.intro (cZ d0 hy) (Gs _ _ y (hrl.later hy) (by omega)))
   clear hcc d0 hrl hl1
   go_upto_region 10 with fail
   generalize (wr.alloc (.cells #[.string xs,.int .u8 3,.int .i64 xn] 50))=w4 at *
   have HK:=Lib.hid (λ(y:World) (hy:Grow w4 y)=>And.intro (ah xY.out hy) (And.intro (ah dZ.out (gtr zf.out hy)) (HD0.out y (gtr zf.out hy))))
   have F4:=Lib.hid (λ(y:World) (hy:Grow w4 y)=>(gtr zf.out hy).size)
   refine kK 12 50 [some 35,some 36,some 37,some 38,some 39,some 40,some 41,some 42,some 43,some 44,some 45,some 46] [[],[0],[1],[],[],[4],[],[5,6],[7],[8],[9],[10]] [] [.c (.pointer (some ⟨S,0,none⟩)),.c (.pointer (some ⟨S,0,none⟩)),.c (.pointer (some ⟨S,0,none⟩)),.c (.agg #[.string xs,.int .u8 3,.int .i64 xn]),.c (.pointer (some ⟨w.heap.size,0,none⟩)),.c (.slice (some ⟨cb,co,none⟩) vars.length cc),.c (.int .i64 (k:Nat)),.c (.pointer (some ⟨cb,co+k,none⟩)),.c (.slice la L[k].length lc),.p (λv y=>∃ a c,v = .slice a L[k].length c/\y.ownsRow wr.heap.size 3 1 (.slice a L[k].length c) L[k].length (flat aU L[k])),.p (λv y=>∃ a c,v = .agg #[.slice a L[k].length c]/\y.ownsRow wr.heap.size 3 1 (.slice a L[k].length c) L[k].length (flat aU L[k])),.p (λv y=>∃ C a c,v = .pointer (some ⟨C,0,none⟩)/\(w4.heap.size<=C/\y.heap[C]? = some (.cells #[.slice a L[k].length c] 138 (0,0)))/\y.ownsRow wr.heap.size 3 1 (.slice a L[k].length c) L[k].length (flat aU L[k]))] ⟨⟨(λv x y hg h=>by obtain⟨a,c,hv,hb⟩:=h;exact⟨a,c,hv,bu hb hg (λ_ _ e=>e)⟩),λ_=>bg⟩,⟨(λv x y hg h=>by obtain⟨a,c,hv,hb⟩:=h;exact⟨a,c,hv,bu hb hg (λ_ _ e=>e)⟩),λ_=>bg⟩,⟨(λv x y hg h=>by obtain⟨C,a,c,hv,⟨h1,h2⟩,hb⟩:=h;exact⟨C,a,c,hv,⟨h1,ah h2 hg⟩,bu hb hg (λ_ _ e=>e)⟩),λ_=>bg⟩,trivial⟩ (dm rfl) ?steps ?done
   case steps =>
    refine⟨?s0,?s1,?s2,?s3,?s4,?s5,?s6,?s7,?s8,?s9,?s10,?s11,trivial⟩
    case s0 =>
     refine oo (λvs x hP => ?_)
     simp only[zS]
     go_simp
     exact gc
    case s1 =>
     refine oo (λvs x hP => ?_)
     simp only[zS]
     go_simp
     exact gc
    case s2 =>
     refine oo (λvs x hP => ?_)
     simp only[zS]
     go_simp
     exact gc
    case s3 =>
     refine ok HK (λvs x hG HX hP => ?_)
     obtain⟨c0,c1,c2⟩:=dR HX.out.1
     simp only[zS]
     go_simp
     exact gc
    case s4 =>
     refine oo (λvs x hP => ?_)
     simp only[zS]
     go_simp
     exact gc
    case s5 =>
     refine ok HK (λvs x hG HX hP => ?_)
     obtain⟨c0,c1,c2⟩:=dR HX.out.2.1
     have hbl:=lt_of_block HX.out.2.1
     simp only[zS]
     go_simp
     exact gc
    case s6 =>
     refine oo (λvs x hP => ?_)
     simp only[zS]
     go_simp
     exact gc
    case s7 =>
     refine ok HK (λvs x hG HX hP => ?_)
     have hbd:(k:Int)<(vars.length:Nat):=by have:=FW.out;omega
     simp only[zS]
     go_simp
     exact gc
    case s8 =>
     refine ok HK (λvs x hG HX hP => ?_)
     have d0:=HX.out.2.2.1
     have hdl:=World.block_lt_of_cell? x _ d0
     simp only at hdl
     simp only[zS]
     go_simp
     exact gc
    case s9 =>
     refine ok HK (λvs x hG HX hP => ?_)
     have HC:=Lib.hid (HX.out.2.2.2)
     simp only[zS]
     go_simp
     refine(HC.out).mono ?_
     rintro e y ⟨v1,rfl,hrow,hg⟩
     obtain⟨a,c,rfl⟩:=dX hrow
     exact⟨_,rfl,hg,_,_,rfl,qO hrow (F4.out x hG)⟩
    case s10 =>
     refine oo (λvs x hP => ?_)
     have p9:=pq hP 9
     obtain⟨a9,c9,h9,o9⟩:=p9
     simp only[zS,h9]
     go_simp
     exact gk ⟨_,_,rfl,o9⟩
    case s11 =>
     refine ok HK (λvs x hG HX hP => ?_)
     have qi:=pq hP 10
     obtain⟨yK,c10,h10,uE⟩:=qi
     simp only[zS,h10]
     go_simp
     exact gl ⟨_,rfl,_,_,⟨hG.size,heap_alloc_new x _⟩,bu uE ((Mv.refl _ _).alloc _) (λ_ _ e=>e)⟩
   case done =>
   intro vs wx hE
   have hG:=hE.grow
   have p9:=hE.val 9
   obtain⟨a9,c9,h9,o9⟩:=p9
   have qi:=hE.val 10
   obtain⟨yK,c10,h10,uE⟩:=qi
   have yV:=hE.val 11
   obtain⟨R4,FE,c11,h11,⟨Bc,b11⟩,wF⟩:=yV
   simp only[zS,Nat.reduceAdd,h9,h10,h11,List.drop_succ_cons,List.drop_zero]
   have zg:=Lib.hid (lI.out.later (gtr zf.out hG))
   have Cx:=Lib.hid (ah dZ.out (gtr zf.out hG))
   have pM:=Lib.hid (Ex w.heap.size S 0 #[u1,u2,.int .i64 0,.slice none 0 0,.pointer (some ⟨T,0,none⟩)] 134 u1 u2 (vars.take k) aH ⟨xs,3,xn⟩ R4 wx zg.out.store rfl rfl zg.out.vars zg.out.cls zg.out.g.size (by decide) (by decide) (by simp;omega) (by have:=lI.out.la;omega))
   have jZ:=Lib.hid (λw6 v1 v2 ha=>Ce.out wx w6 R4 _ v1 v2 (gtr zf.out hG) b11 (Nat.le_trans zf.out.size Bc) (qO wF (Nat.le_refl _)) ha)
   clear hE hG o9 uE wF b11 Bc Ce c0 c1 c2
   go_wp2_with fail
   refine pM.out.mono ?_
   rintro e w6 ⟨rfl,v1,v2,ha⟩
   have Z7:=Lib.hid (jZ.out w6 v1 v2 ha)
   have Ph:=ha.mv.block _ (lt_of_block Cx.out) (by
    rintro(e|e|e)
    · have h1:=zg.out.store
      rw[← e,Cx.out]at h1
      simp at h1
    · exact bW zg.out.vars Cx.out (by decide) e
    · exact bW zg.out.cls Cx.out (by decide) e)
   have jG:=Lib.hid (Ph.trans Cx.out)
   clear ha Ph pM jZ
   go_wp2_with fail
   go_roundw
   case rel=>exact⟨k+1,by go_num,by omega,_,_,_,_,Z7.out,jG.out⟩
   case measure=>(simp[intOf] <;> omega)
 · obtain rfl:k=vars.length:=by omega
   have hlt':decide ((vars.length:Int)<vars.length)=false:=by simp
   go_wp2_with fail
   go_ret2
   exact⟨_,rfl,_,_,_,_,_,lI.out⟩
end Go.Proofs.YtbpodipdfohikaaGreat
